/- talk: contract of the reference's Hear: what it takes. -/
import Derived.Test.YtgjodjkmefdilaaTru
namespace Go.Proofs.Ytgjodjkmefdilaa
set_option linter.unusedSimpArgs false
set_option linter.unusedVariables false
open Go.RowKit

theorem took_step (A ms : List (List UInt8)) (fi k : Nat) (hk : k < ms.length) : A ++ (ms.take (k + 1)).drop (A.length - fi) = if A.length ≤ fi + k then (A ++ (ms.take k).drop (A.length - fi)) ++ [ms.getD k []] else A ++ (ms.take k).drop (A.length - fi) := by
  have h1 : ms.take (k + 1) = ms.take k ++ [ms.getD k []] := by
    rw [List.take_add_one, List.getD_eq_getElem?_getD, List.getElem?_eq_getElem hk]; rfl
  by_cases h : A.length ≤ fi + k
  · rw [if_pos h, h1, List.drop_append_of_le_length (by simp; omega), List.append_assoc]
  · rw [if_neg h, List.drop_eq_nil_of_le (by simp; omega), List.drop_eq_nil_of_le (by simp; omega)]

set_option maxRecDepth 100000 in
set_option maxHeartbeats 8000000 in
theorem rHear_yes (R : RS) (vs vt v : Value) (fi he : Nat) (ms : List (List UInt8)) (w w0 : World) (X Y : List Blk) (O : Ow w w0 Y) (hX : Sub X Y) (hM : RM w0 X R vs vt) (hR : RW 1000000 R) (hn : ms.length ≤ 64) (hv : MsgL w0 X v ms) (hms : ∀ i, (ms.getD i []).length ≤ 4096) (hfi : fi ≤ 9223372036854775807) (hhe : he ≤ R.said.length) (R' : RS) (hR' : rHear R fi ms he = R') (c : Int) (hc : (if R.took.length < fi then 20 else 0 : Int) = c) :
    Calls Try.prog 32 #[.agg (rcs R vs vt), .agg #[.int .i64 fi, v, .int .i64 he]] w fun e w' => ∃ vt' N, e = .returned (.tuple #[.agg (rcs R' vs vt'), .int .i64 c]) ∧ Ow w' w0 (N ++ Y) ∧ MsgL w0 (N ++ X) vt' R'.took := by
  obtain ⟨hs, ht⟩ := hM
  obtain ⟨a1, c1, rfl⟩ := hs.slice
  obtain ⟨a2, c2, rfl⟩ := ht.slice
  obtain ⟨av, cv, rfl⟩ := hv.slice
  have h1 := hR.said
  have h2 := hR.le
  have h3 := hR.out
  have h4 := hR.took
  obtain ⟨h1m, hm1⟩ : ∃ h1m : Nat, max R.heard he = h1m := ⟨_, rfl⟩
  obtain ⟨o1m, hm2⟩ : ∃ o1m : Nat, max R.out h1m = o1m := ⟨_, rfl⟩
  have hx1 : max (R.heard : Int) (he : Int) = (h1m : Int) := by omega
  have hx2 : max (R.out : Int) (h1m : Int) = (o1m : Int) := by omega
  have HO := Lib.hid (((O.key #[.int .i64 R.most, .int .i64 R.again, .slice a1 R.said.length c1, .int .i64 R.heard, .int .i64 R.out, .slice a2 R.took.length c2, .int .i64 R.gave, .int .i64 R.last, .bool R.went, .bool R.owes] 27 w.heap.size rfl).key #[.int .i64 fi, .slice av ms.length cv, .int .i64 he] 68 (w.heap.size + 1) (by simp)).key #[.int .i64 0, .int .i64 0, .slice none 0 0, .int .i64 0, .int .i64 0, .slice none 0 0, .int .i64 0, .int .i64 0, .bool false, .bool false] 27 (w.heap.size + 2) (by simp))
  have HV := Lib.hid hv
  have HT := Lib.hid ht
  have HX := Lib.hid hX
  have HMS := Lib.hid hms
  have HR' := Lib.hid hR'
  have HC := Lib.hid hc
  have HM1 := Lib.hid hm1
  have HM2 := Lib.hid hm2
  clear hs ht O hv hX hms hR' hc hm1 hm2
  have e1 : decide ((fi : Int) < 0) = false := decide_eq_false (by omega)
  have e2 : decide ((he : Int) < 0) = false := decide_eq_false (by omega)
  have e3 : decide ((64 : Int) < (ms.length : Int)) = false := decide_eq_false (by omega)
  have e4 : decide ((R.said.length : Int) < (he : Int)) = false := decide_eq_false (by omega)
  simp only [rcs]
  go_enter Try.func32, Try.ntmps32
  go_wp2_with fail
  go_loopw [6] (fun vi wr => ∃ k : Nat, vi = .int .i64 k ∧ k ≤ ms.length ∧ Ow wr w0 (⟨w.heap.size + 2, 27, #[.int .i64 0, .int .i64 0, .slice none 0 0, .int .i64 0, .int .i64 0, .slice none 0 0, .int .i64 0, .int .i64 0, .bool false, .bool false]⟩ :: (⟨w.heap.size + 1, 68, #[.int .i64 fi, .slice av ms.length cv, .int .i64 he]⟩ :: (⟨w.heap.size, 27, #[.int .i64 R.most, .int .i64 R.again, .slice a1 R.said.length c1, .int .i64 R.heard, .int .i64 R.out, .slice a2 R.took.length c2, .int .i64 R.gave, .int .i64 R.last, .bool R.went, .bool R.owes]⟩ :: Y)))) (fun i _ => ms.length - (intOf i).toNat)
  case atStart => exact ⟨0, rfl, by omega, HO.out⟩
  case round =>
    obtain ⟨k, rfl, hk, O5⟩ := hrel
    have HO5 := Lib.hid O5
    have hbR := O5.has (b := w.heap.size) (t := 27) (cs := #[.int .i64 R.most, .int .i64 R.again, .slice a1 R.said.length c1, .int .i64 R.heard, .int .i64 R.out, .slice a2 R.took.length c2, .int .i64 R.gave, .int .i64 R.last, .bool R.went, .bool R.owes]) (by simp)
    have hbP := O5.has (b := w.heap.size + 1) (t := 68) (cs := #[.int .i64 fi, .slice av ms.length cv, .int .i64 he]) (by simp)
    have p1 := hbP.cell 1
    have ltp := hbP.lt
    by_cases hlt : k < ms.length
    · obtain ⟨r, o, ak, ck, rfl, hr, hcc, hm⟩ := HV.out.at_ O5 (fun x hx => by simp [HX.out x hx]) k hlt
      have hml := HMS.out k
      obtain ⟨m, HMk⟩ : ∃ m, Hid (ms.getD k [] = m) := ⟨_, rfl⟩
      rw [HMk.out] at hcc hml
      have hd5 : decide ((4096 : Int) < (m.length : Int)) = false := decide_eq_false (by omega)
      clear O5 hm hbR hbP
      go_wp2
      exact ⟨⟨k + 1, by simp, by omega, HO5.out⟩, by simp [intOf]; omega⟩
    · obtain rfl : k = ms.length := by omega
      have p0 := hbP.cell 0
      have p2 := hbP.cell 2
      have d0 := hbR.cell 0
      have d1 := hbR.cell 1
      have d2 := hbR.cell 2
      have d3 := hbR.cell 3
      have d4 := hbR.cell 4
      have d5 := hbR.cell 5
      have d6 := hbR.cell 6
      have d7 := hbR.cell 7
      have d8 := hbR.cell 8
      have d9 := hbR.cell 9
      have f3 := hbR.frozen 3
      have f4 := hbR.frozen 4
      have f9 := hbR.frozen 9
      have ltr := hbR.lt
      have HO6 := Lib.hid (O5.perm (L' := ⟨w.heap.size, 27, #[.int .i64 R.most, .int .i64 R.again, .slice a1 R.said.length c1, .int .i64 R.heard, .int .i64 R.out, .slice a2 R.took.length c2, .int .i64 R.gave, .int .i64 R.last, .bool R.went, .bool R.owes]⟩ :: (⟨w.heap.size + 2, 27, #[.int .i64 0, .int .i64 0, .slice none 0 0, .int .i64 0, .int .i64 0, .slice none 0 0, .int .i64 0, .int .i64 0, .bool false, .bool false]⟩ :: (⟨w.heap.size + 1, 68, #[.int .i64 fi, .slice av ms.length cv, .int .i64 he]⟩ :: Y))) (perm_cnt fun x => by simp only [cnt_append, cnt_cons, cnt_nil] <;> omega))
      clear O5 hbR hbP
      by_cases hE : R.took.length < fi
      · have hd6 : decide ((R.took.length : Int) < (fi : Int)) = true := decide_eq_true (by omega)
        rcases Nat.eq_zero_or_pos ms.length with hs0 | hs0
        · have hd7 : decide ((0 : Int) < (ms.length : Int)) = false := decide_eq_false (by omega)
          go_wp2_with (refine wpList_store_ow rfl 27 (.tmp 4) (.tmp 69) rfl ((((HO6.out.set 3 (.int .i64 h1m)).set 4 (.int .i64 o1m)).as (L' := ⟨w.heap.size, 27, #[.int .i64 R.most, .int .i64 R.again, .slice a1 R.said.length c1, .int .i64 h1m, .int .i64 o1m, .slice a2 R.took.length c2, .int .i64 R.gave, .int .i64 R.last, .bool R.went, .bool R.owes]⟩ :: (⟨w.heap.size + 2, 27, #[.int .i64 0, .int .i64 0, .slice none 0 0, .int .i64 0, .int .i64 0, .slice none 0 0, .int .i64 0, .int .i64 0, .bool false, .bool false]⟩ :: (⟨w.heap.size + 1, 68, #[.int .i64 fi, .slice av ms.length cv, .int .i64 he]⟩ :: Y))) (by simp)).perm (L' := ⟨w.heap.size + 2, 27, #[.int .i64 0, .int .i64 0, .slice none 0 0, .int .i64 0, .int .i64 0, .slice none 0 0, .int .i64 0, .int .i64 0, .bool false, .bool false]⟩ :: (⟨w.heap.size, 27, #[.int .i64 R.most, .int .i64 R.again, .slice a1 R.said.length c1, .int .i64 h1m, .int .i64 o1m, .slice a2 R.took.length c2, .int .i64 R.gave, .int .i64 R.last, .bool R.went, .bool R.owes]⟩ :: (⟨w.heap.size + 1, 68, #[.int .i64 fi, .slice av ms.length cv, .int .i64 he]⟩ :: Y))) (perm_cnt fun x => by simp only [cnt_append, cnt_cons, cnt_nil] <;> omega)) (by rfl) #[.int .i64 R.most, .int .i64 R.again, .slice a1 R.said.length c1, .int .i64 h1m, .int .i64 o1m, .slice a2 R.took.length c2, .int .i64 R.gave, .int .i64 R.last, .bool R.went, .bool R.owes] (by rfl) (by kernel_rfl) (by rfl) (by simp [Value.oneCell']) ?_; intro w6 O6; (have e0 := (O6.has (List.mem_cons_self ..)).cell 0); (have e1 := (O6.has (List.mem_cons_self ..)).cell 1); (have e2 := (O6.has (List.mem_cons_self ..)).cell 2); (have e3 := (O6.has (List.mem_cons_self ..)).cell 3); (have e4 := (O6.has (List.mem_cons_self ..)).cell 4); (have e5 := (O6.has (List.mem_cons_self ..)).cell 5); (have e6 := (O6.has (List.mem_cons_self ..)).cell 6); (have e7 := (O6.has (List.mem_cons_self ..)).cell 7); (have e8 := (O6.has (List.mem_cons_self ..)).cell 8); (have e9 := (O6.has (List.mem_cons_self ..)).cell 9); (have HO7 := Lib.hid O6); clear O6)
          refine bodyPost_ret (v := .tuple #[.agg #[.int .i64 R.most, .int .i64 R.again, .slice a1 R.said.length c1, .int .i64 h1m, .int .i64 o1m, .slice a2 R.took.length c2, .int .i64 R.gave, .int .i64 R.last, .bool R.went, .bool R.owes], .int .i64 20]) (by simp [results, Try.results32, go_sem, e0, e1, e2, e3, e4, e5, e6, e7, e8, e9]) rfl ?_
          have eR : R' = { R with heard := h1m, out := o1m, owes := R.owes } := by
            rw [← HR'.out]
            unfold rHear
            rw [HM1.out, HM2.out, if_pos hE]
            simp [hs0]
          have hc20 : c = 20 := by rw [← HC.out, if_pos hE]
          subst eR hc20
          exact ⟨.slice a2 R.took.length c2, [], rfl, HO7.out.drop1.drop1.drop1, HT.out⟩
        · have hd7 : decide ((0 : Int) < (ms.length : Int)) = true := decide_eq_true (by omega)
          go_wp2_with (refine wpList_store_ow rfl 27 (.tmp 4) (.tmp 69) rfl (((((HO6.out.set 3 (.int .i64 h1m)).set 4 (.int .i64 o1m)).set 9 (.bool true)).as (L' := ⟨w.heap.size, 27, #[.int .i64 R.most, .int .i64 R.again, .slice a1 R.said.length c1, .int .i64 h1m, .int .i64 o1m, .slice a2 R.took.length c2, .int .i64 R.gave, .int .i64 R.last, .bool R.went, .bool true]⟩ :: (⟨w.heap.size + 2, 27, #[.int .i64 0, .int .i64 0, .slice none 0 0, .int .i64 0, .int .i64 0, .slice none 0 0, .int .i64 0, .int .i64 0, .bool false, .bool false]⟩ :: (⟨w.heap.size + 1, 68, #[.int .i64 fi, .slice av ms.length cv, .int .i64 he]⟩ :: Y))) (by simp)).perm (L' := ⟨w.heap.size + 2, 27, #[.int .i64 0, .int .i64 0, .slice none 0 0, .int .i64 0, .int .i64 0, .slice none 0 0, .int .i64 0, .int .i64 0, .bool false, .bool false]⟩ :: (⟨w.heap.size, 27, #[.int .i64 R.most, .int .i64 R.again, .slice a1 R.said.length c1, .int .i64 h1m, .int .i64 o1m, .slice a2 R.took.length c2, .int .i64 R.gave, .int .i64 R.last, .bool R.went, .bool true]⟩ :: (⟨w.heap.size + 1, 68, #[.int .i64 fi, .slice av ms.length cv, .int .i64 he]⟩ :: Y))) (perm_cnt fun x => by simp only [cnt_append, cnt_cons, cnt_nil] <;> omega)) (by rfl) #[.int .i64 R.most, .int .i64 R.again, .slice a1 R.said.length c1, .int .i64 h1m, .int .i64 o1m, .slice a2 R.took.length c2, .int .i64 R.gave, .int .i64 R.last, .bool R.went, .bool true] (by rfl) (by kernel_rfl) (by rfl) (by simp [Value.oneCell']) ?_; intro w6 O6; (have e0 := (O6.has (List.mem_cons_self ..)).cell 0); (have e1 := (O6.has (List.mem_cons_self ..)).cell 1); (have e2 := (O6.has (List.mem_cons_self ..)).cell 2); (have e3 := (O6.has (List.mem_cons_self ..)).cell 3); (have e4 := (O6.has (List.mem_cons_self ..)).cell 4); (have e5 := (O6.has (List.mem_cons_self ..)).cell 5); (have e6 := (O6.has (List.mem_cons_self ..)).cell 6); (have e7 := (O6.has (List.mem_cons_self ..)).cell 7); (have e8 := (O6.has (List.mem_cons_self ..)).cell 8); (have e9 := (O6.has (List.mem_cons_self ..)).cell 9); (have HO7 := Lib.hid O6); clear O6)
          refine bodyPost_ret (v := .tuple #[.agg #[.int .i64 R.most, .int .i64 R.again, .slice a1 R.said.length c1, .int .i64 h1m, .int .i64 o1m, .slice a2 R.took.length c2, .int .i64 R.gave, .int .i64 R.last, .bool R.went, .bool true], .int .i64 20]) (by simp [results, Try.results32, go_sem, e0, e1, e2, e3, e4, e5, e6, e7, e8, e9]) rfl ?_
          have eR : R' = { R with heard := h1m, out := o1m, owes := true } := by
            rw [← HR'.out]
            unfold rHear
            rw [HM1.out, HM2.out, if_pos hE]
            simp [hs0]
          have hc20 : c = 20 := by rw [← HC.out, if_pos hE]
          subst eR hc20
          exact ⟨.slice a2 R.took.length c2, [], rfl, HO7.out.drop1.drop1.drop1, HT.out⟩
      · have hd6 : decide ((R.took.length : Int) < (fi : Int)) = false := decide_eq_false (by omega)
        rcases Nat.eq_zero_or_pos ms.length with hs0 | hs0
        · have hd7 : decide ((0 : Int) < (ms.length : Int)) = false := decide_eq_false (by omega)
          go_wp2_with fail
          go_loopw [7] (fun vi wx => vi = .int .i64 0 ∧ Ow wx w0 (⟨w.heap.size, 27, #[.int .i64 R.most, .int .i64 R.again, .slice a1 R.said.length c1, .int .i64 h1m, .int .i64 o1m, .slice a2 R.took.length c2, .int .i64 R.gave, .int .i64 R.last, .bool R.went, .bool R.owes]⟩ :: (⟨w.heap.size + 2, 27, #[.int .i64 0, .int .i64 0, .slice none 0 0, .int .i64 0, .int .i64 0, .slice none 0 0, .int .i64 0, .int .i64 0, .bool false, .bool false]⟩ :: (⟨w.heap.size + 1, 68, #[.int .i64 fi, .slice av ms.length cv, .int .i64 he]⟩ :: Y)))) (fun _ _ => 0)
          case atStart => exact ⟨rfl, ((HO6.out.set 3 (.int .i64 h1m)).set 4 (.int .i64 o1m)).as (L' := ⟨w.heap.size, 27, #[.int .i64 R.most, .int .i64 R.again, .slice a1 R.said.length c1, .int .i64 h1m, .int .i64 o1m, .slice a2 R.took.length c2, .int .i64 R.gave, .int .i64 R.last, .bool R.went, .bool R.owes]⟩ :: (⟨w.heap.size + 2, 27, #[.int .i64 0, .int .i64 0, .slice none 0 0, .int .i64 0, .int .i64 0, .slice none 0 0, .int .i64 0, .int .i64 0, .bool false, .bool false]⟩ :: (⟨w.heap.size + 1, 68, #[.int .i64 fi, .slice av ms.length cv, .int .i64 he]⟩ :: Y))) (by simp)⟩
          case round =>
            obtain ⟨rfl, O8⟩ := hrel
            have HO8 := Lib.hid (O8.perm (L' := ⟨w.heap.size + 2, 27, #[.int .i64 0, .int .i64 0, .slice none 0 0, .int .i64 0, .int .i64 0, .slice none 0 0, .int .i64 0, .int .i64 0, .bool false, .bool false]⟩ :: (⟨w.heap.size, 27, #[.int .i64 R.most, .int .i64 R.again, .slice a1 R.said.length c1, .int .i64 h1m, .int .i64 o1m, .slice a2 R.took.length c2, .int .i64 R.gave, .int .i64 R.last, .bool R.went, .bool R.owes]⟩ :: (⟨w.heap.size + 1, 68, #[.int .i64 fi, .slice av ms.length cv, .int .i64 he]⟩ :: Y))) (perm_cnt fun x => by simp only [cnt_append, cnt_cons, cnt_nil] <;> omega))
            have hbR := O8.has (b := w.heap.size) (t := 27) (cs := #[.int .i64 R.most, .int .i64 R.again, .slice a1 R.said.length c1, .int .i64 h1m, .int .i64 o1m, .slice a2 R.took.length c2, .int .i64 R.gave, .int .i64 R.last, .bool R.went, .bool R.owes]) (by simp)
            have hbP := O8.has (b := w.heap.size + 1) (t := 68) (cs := #[.int .i64 fi, .slice av ms.length cv, .int .i64 he]) (by simp)
            have p1 := hbP.cell 1
            have ltp := hbP.lt
            have d0 := hbR.cell 0
            have d1 := hbR.cell 1
            have d2 := hbR.cell 2
            have d3 := hbR.cell 3
            have d4 := hbR.cell 4
            have d5 := hbR.cell 5
            have d6 := hbR.cell 6
            have d7 := hbR.cell 7
            have d8 := hbR.cell 8
            have d9 := hbR.cell 9
            have ltr := hbR.lt
            clear O8 hbR hbP
            go_wp2_with (refine wpList_store_ow rfl 27 (.tmp 4) (.tmp 99) rfl HO8.out (by rfl) #[.int .i64 R.most, .int .i64 R.again, .slice a1 R.said.length c1, .int .i64 h1m, .int .i64 o1m, .slice a2 R.took.length c2, .int .i64 R.gave, .int .i64 R.last, .bool R.went, .bool R.owes] (by rfl) (by kernel_rfl) (by rfl) (by simp [Value.oneCell']) ?_; intro w6 O6; (have e0 := (O6.has (List.mem_cons_self ..)).cell 0); (have e1 := (O6.has (List.mem_cons_self ..)).cell 1); (have e2 := (O6.has (List.mem_cons_self ..)).cell 2); (have e3 := (O6.has (List.mem_cons_self ..)).cell 3); (have e4 := (O6.has (List.mem_cons_self ..)).cell 4); (have e5 := (O6.has (List.mem_cons_self ..)).cell 5); (have e6 := (O6.has (List.mem_cons_self ..)).cell 6); (have e7 := (O6.has (List.mem_cons_self ..)).cell 7); (have e8 := (O6.has (List.mem_cons_self ..)).cell 8); (have e9 := (O6.has (List.mem_cons_self ..)).cell 9); (have HO7 := Lib.hid O6); clear O6)
            refine bodyPost_ret (v := .tuple #[.agg #[.int .i64 R.most, .int .i64 R.again, .slice a1 R.said.length c1, .int .i64 h1m, .int .i64 o1m, .slice a2 R.took.length c2, .int .i64 R.gave, .int .i64 R.last, .bool R.went, .bool R.owes], .int .i64 0]) (by simp [results, Try.results32, go_sem, e0, e1, e2, e3, e4, e5, e6, e7, e8, e9]) rfl ?_
            have eR : R' = { R with heard := h1m, out := o1m, owes := R.owes } := by
              rw [← HR'.out]
              unfold rHear
              rw [HM1.out, HM2.out, if_neg hE, List.eq_nil_of_length_eq_zero hs0]
              simp
            have hc0 : c = 0 := by rw [← HC.out, if_neg hE]
            subst eR hc0
            exact ⟨.slice a2 R.took.length c2, [], rfl, HO7.out.drop1.drop1.drop1, HT.out⟩

        · have hd7 : decide ((0 : Int) < (ms.length : Int)) = true := decide_eq_true (by omega)
          go_wp2_with fail
          have e4' : decide (R.said.length < he) = false := decide_eq_false (by omega)
          simp only [e4']
          go_loopw [7] (fun vi wx => ∃ (k : Nat) (at_ : Option Addr) (ct : Nat) (tk : List (List UInt8)) (N : List Blk), vi = .int .i64 k ∧ k ≤ ms.length ∧ tk = R.took ++ (ms.take k).drop (R.took.length - fi) ∧ Ow wx w0 (⟨w.heap.size, 27, #[.int .i64 R.most, .int .i64 R.again, .slice a1 R.said.length c1, .int .i64 h1m, .int .i64 o1m, .slice at_ tk.length ct, .int .i64 R.gave, .int .i64 R.last, .bool R.went, .bool true]⟩ :: (⟨w.heap.size + 2, 27, #[.int .i64 0, .int .i64 0, .slice none 0 0, .int .i64 0, .int .i64 0, .slice none 0 0, .int .i64 0, .int .i64 0, .bool false, .bool false]⟩ :: (⟨w.heap.size + 1, 68, #[.int .i64 fi, .slice av ms.length cv, .int .i64 he]⟩ :: (N ++ Y)))) ∧ MsgL w0 (N ++ X) (.slice at_ tk.length ct) tk) (fun i _ => ms.length - (intOf i).toNat)
          case atStart => exact ⟨0, a2, c2, R.took, [], rfl, by omega, by simp, (((HO6.out.set 3 (.int .i64 h1m)).set 4 (.int .i64 o1m)).set 9 (.bool true)).as (L' := ⟨w.heap.size, 27, #[.int .i64 R.most, .int .i64 R.again, .slice a1 R.said.length c1, .int .i64 h1m, .int .i64 o1m, .slice a2 R.took.length c2, .int .i64 R.gave, .int .i64 R.last, .bool R.went, .bool true]⟩ :: (⟨w.heap.size + 2, 27, #[.int .i64 0, .int .i64 0, .slice none 0 0, .int .i64 0, .int .i64 0, .slice none 0 0, .int .i64 0, .int .i64 0, .bool false, .bool false]⟩ :: (⟨w.heap.size + 1, 68, #[.int .i64 fi, .slice av ms.length cv, .int .i64 he]⟩ :: Y))) (by simp), HT.out⟩
          case round =>
            obtain ⟨k, at_, ct, tk, N, rfl, hk, htk, O8, ht8⟩ := hrel
            have HO8 := Lib.hid O8
            have HT8 := Lib.hid ht8
            have HTK := Lib.hid htk
            have htl : tk.length = max R.took.length (fi + k) := by
              rw [htk]; simp; omega
            have hbR := O8.has (b := w.heap.size) (t := 27) (cs := #[.int .i64 R.most, .int .i64 R.again, .slice a1 R.said.length c1, .int .i64 h1m, .int .i64 o1m, .slice at_ tk.length ct, .int .i64 R.gave, .int .i64 R.last, .bool R.went, .bool true]) (by simp)
            have hbP := O8.has (b := w.heap.size + 1) (t := 68) (cs := #[.int .i64 fi, .slice av ms.length cv, .int .i64 he]) (by simp)
            have p0 := hbP.cell 0
            have p1 := hbP.cell 1
            have ltp := hbP.lt
            have ltr := hbR.lt
            by_cases hlt : k < ms.length
            · have d5 := hbR.cell 5
              obtain ⟨r, o, ak, ck, rfl, hr, hcc, hm⟩ := HV.out.at_ O8 (fun x hx => by simp [HX.out x hx]) k hlt
              have hml := HMS.out k
              obtain ⟨m, HMk⟩ : ∃ m, Hid (ms.getD k [] = m) := ⟨_, rfl⟩
              rw [HMk.out] at hcc hml hm
              obtain ⟨us, hul, hum, hus⟩ := ht8.src O8 (fun x hx => by rcases List.mem_append.1 hx with hx | hx; (· simp [hx]); (· have := HX.out x hx; simp [this]))
              have hmb := hm.bsl O8 (fun x hx => by simp [HX.out x hx])
              have HUN : Hid (at_ = none → tk.length = 0) := fun h0 => (ht8.cap.2 h0).1
              have HUC : Hid (∀ ad, at_ = some ad → ∀ j u, us[j]? = some u → wr.cell? (ad.add j) = some u) := fun ad had j u hj => by
                rcases hus with h | ⟨r2, o2, h, hr2, hc2⟩
                · subst h; simp at hj
                · rw [h] at had; cases had; rw [add_plain']; exact hc2 j u hj
              have HUO : Hid (∀ ad, at_ = some ad → us ≠ [] → ad.block < wr.heap.size) := fun ad had hne => by
                rcases hus with h | ⟨r2, o2, h, hr2, hc2⟩
                · exact absurd h hne
                · rw [h] at had; cases had; exact hr2
              have HU1 : Hid (∀ u ∈ us, u.oneCell' = true) := hum.one
              have HUM := Lib.hid hum
              have HUL := Lib.hid hul
              have HMB := Lib.hid hmb
              have HMN : Hid (ak = none → m.length = 0) := fun h0 => (hmb.cells.2.1 h0).1
              have HMO : Hid (∀ ad, ak = some ad → bcs m ≠ [] → ad.block < wr.heap.size) := fun ad had hne => by
                obtain ⟨ao, cap, e, -, h3⟩ := hmb
                cases e
                rcases h3 with h3 | ⟨r2, o2, h, hr2, -⟩
                · exact absurd (List.eq_nil_of_length_eq_zero (by rw [bcs_len]; exact h3)) hne
                · rw [had] at h; cases h; exact hr2
              have hkn : (k : Int) < (ms.length : Int) := by omega
              clear O8 hbR hbP hm hum hul hus ht8 htk hmb
              by_cases hadd : fi + k = tk.length
              · have hd8 : ((fi : Int) + (k : Int) == (tk.length : Int)) = true := by rw [beq_iff_eq]; omega
                have HAD := Lib.hid hadd
                have HTL := Lib.hid htl
                have htb : tk.length ≤ 1000100 := by omega
                clear hadd htl
                go_wp2_with fail
                refine wp_region_rc 12 3 (by kernel_rfl) (by kernel_rfl) (by kernel_rfl) (by kernel_rfl) ?_
                simp only [List.take_succ_cons, List.take_zero]
                repeat (first
                  | (refine B_skip ?_ ?_; (· rfl); (try simp only [Act.put, List.setIfInBounds_toArray, List.set_cons_zero, List.set_cons_succ]))
                  | (refine B_move rfl ?_ ?_; (· rfl); (try simp only [Act.eval, Act.put, Array.getD_eq_getD_getElem?, List.getElem?_toArray, List.getElem?_cons_succ, List.getElem?_cons_zero, Option.getD_some, List.setIfInBounds_toArray, List.set_cons_zero, List.set_cons_succ]))
                  | (refine B_plain ?_ ?_; (· rfl); intro K hK; go_big_quiet_op; with_reducible refine hK _ ?_; clear hK K)
                  | (refine B_newsl0 elt_msg rfl rfl ?_ ?_; (· rfl))
                  | (refine B_newsl0 elt_byte rfl rfl ?_ ?_; (· rfl))
                  | (refine B_appendL (s := 85) rfl rfl elt_msg (by omega) rfl at_ tk.length ct us (fun u => rfl) HUL.out HUN.out HUC.out HUO.out HU1.out (by omega) ?_ ?_; (· rfl))
                  | (refine B_appendL (s := 89) rfl rfl elt_byte (by omega) rfl ak m.length ck (bcs m) (fun u => rfl) (bcs_len m) HMN.out HMB.out.cells.2.2 HMO.out (bcs_one m) (by omega) ?_ ?_; (· rfl))
                  | (refine B_newslP (s := 95) elt_msg rfl rfl rfl (stays_rowOf _ _ _) (fun u W ⟨ao, cap, _, h, _⟩ => ⟨ao, _, cap, h⟩) ?_ ?_; (· rfl)))
                refine B_nil ?_ rfl ?_ ?_
                · kernel_rfl
                · rfl
                rintro _ ⟨⟨g4, d4⟩, rfl⟩
                simp only [fin, Act.put, List.setIfInBounds_toArray, List.set_cons_zero, List.set_cons_succ]
                rintro _ ⟨b96, u96, rfl, hb1, hb2, hu96⟩ u95 - u89 - _ ⟨a88, c88, B88, rfl, R88, hB88⟩ u85 -
                obtain ⟨ax, cx, Bx, rfl, Rx, hBx⟩ := hu96
                have O9 := HO8.out.found (B := B88 ++ Bx) ⟨⟨g4, d4⟩, rfl⟩ (List.pairwise_append.2 ⟨R88.apart, Rx.apart, fun x hx y hy => by
                  refine HasBlk.type_ne (hB88 x hx).2 (hBx y hy).2 ?_
                  rw [R88.ty x hx, Rx.ty y hy]; decide⟩) (fun y hy => by
                  rcases List.mem_append.1 hy with hy | hy
                  · exact hB88 y hy
                  · exact hBx y hy)
                rw [HUL.out] at R88
                rw [HUL.out]
                rw [bcs_len] at Rx hb2
                have hsrc : ∀ ad, some (⟨b96, 0, none⟩ : Addr) = some ad → ∀ j u, [Value.slice ax m.length cx][j]? = some u → (plus wr g4 d4).cell? (ad.add j) = some u := fun ad had j u hj => by
                  cases had
                  obtain rfl : j = 0 := by { have := (List.getElem?_eq_some_iff.1 hj).1; simp at this; exact this }
                  rw [add_plain']
                  simp at hj
                  subst hj
                  exact hb2.cell 0
                refine step_one (n := 2) (k := 12) (by kernel_rfl) (by rfl) (by rfl) ?_
                intro K hK
                refine wp_append_row (.tmp 88) (.tmp 96) 25 (by rfl) elt_msg (B := B88) (L := Bx ++ (⟨w.heap.size, 27, #[.int .i64 R.most, .int .i64 R.again, .slice a1 R.said.length c1, .int .i64 h1m, .int .i64 o1m, .slice at_ tk.length ct, .int .i64 R.gave, .int .i64 R.last, .bool R.went, .bool true]⟩ :: (⟨w.heap.size + 2, 27, #[.int .i64 0, .int .i64 0, .slice none 0 0, .int .i64 0, .int .i64 0, .slice none 0 0, .int .i64 0, .int .i64 0, .bool false, .bool false]⟩ :: (⟨w.heap.size + 1, 68, #[.int .i64 fi, (.slice (some ⟨r, o, none⟩) ms.length cv), .int .i64 he]⟩ :: (N ++ Y))))) (O9.mem.perm (perm_cnt fun x => by simp only [cnt_append, cnt_cons, cnt_nil] <;> omega)) (fun x hx => O9.new x (by simp [hx])) _ _ us (by rfl) R88 _ _ _ [.slice ax m.length cx] (by rfl) (by simp) (by simp) hsrc (by simp [Value.oneCell']) (by unfold maxLen; omega) (by omega) (tk.length + 1) rfl (us ++ [.slice ax m.length cx]) rfl (fun an cn Bn wn Rn Mn hBn => hK _ _ ?_)
                clear hK K
                have O10 := (Ow.mk Mn (New.app hBn fun x hx => O9.new x (by
                  rcases List.mem_append.1 hx with hx | hx
                  · simp [hx]
                  · simp only [List.mem_append, hx, or_true]))).perm (L' := ⟨w.heap.size, 27, #[.int .i64 R.most, .int .i64 R.again, .slice a1 R.said.length c1, .int .i64 h1m, .int .i64 o1m, .slice at_ tk.length ct, .int .i64 R.gave, .int .i64 R.last, .bool R.went, .bool true]⟩ :: (⟨w.heap.size + 2, 27, #[.int .i64 0, .int .i64 0, .slice none 0 0, .int .i64 0, .int .i64 0, .slice none 0 0, .int .i64 0, .int .i64 0, .bool false, .bool false]⟩ :: (⟨w.heap.size + 1, 68, #[.int .i64 fi, (.slice (some ⟨r, o, none⟩) ms.length cv), .int .i64 he]⟩ :: (((Bn ++ Bx) ++ N) ++ Y)))) (perm_cnt fun x => by simp only [cnt_append, cnt_cons, cnt_nil] <;> omega)
                have hq := O10.has (List.mem_cons_self ..)
                have g5 := hq.cell 5
                have f5 := hq.frozen 5
                have ltn := hq.lt
                have HO11 := Lib.hid ((O10.set 5 (.slice an (tk.length + 1) cn)).as (L' := ⟨w.heap.size, 27, #[.int .i64 R.most, .int .i64 R.again, .slice a1 R.said.length c1, .int .i64 h1m, .int .i64 o1m, .slice an (tk.length + 1) cn, .int .i64 R.gave, .int .i64 R.last, .bool R.went, .bool true]⟩ :: (⟨w.heap.size + 2, 27, #[.int .i64 0, .int .i64 0, .slice none 0 0, .int .i64 0, .int .i64 0, .slice none 0 0, .int .i64 0, .int .i64 0, .bool false, .bool false]⟩ :: (⟨w.heap.size + 1, 68, #[.int .i64 fi, (.slice (some ⟨r, o, none⟩) ms.length cv), .int .i64 he]⟩ :: (((Bn ++ Bx) ++ N) ++ Y)))) (by simp))
                have HRn := Lib.hid Rn
                have HRx := Lib.hid Rx
                clear O10 hq Rn Rx Mn hBn O9 R88 hB88 hBx hsrc hb2
                refine step_one (n := 1) (k := 13) (by kernel_rfl) (by rfl) (by rfl) ?_
                intro K hK
                go_simp
                refine hK _ _ ?_
                clear hK K
                refine last_one (k := 14) (by kernel_rfl) (by kernel_rfl) (by rfl) ?_ ?_
                · rfl
                intro K hK
                go_simp
                refine hK _ _ ?_
                clear hK K
                go_wp2
                refine ⟨⟨k + 1, an, cn, tk ++ [m], (Bn ++ Bx) ++ N, by simp, by omega, ?_, ?_, ?_⟩, by simp [intOf]; omega⟩
                · rw [took_step _ _ _ _ hlt, if_pos (by have := HTL.out; have := HAD.out; omega), ← HTK.out, HMk.out]
                · have := HO11.out
                  simpa using this
                · refine ⟨us ++ [.slice ax m.length cx], ?_, (HUM.out.mono (fun x hx => by rcases List.mem_append.1 hx with hx | hx <;> simp [hx])).snoc ((HRx.out.msg w0).mono (fun x hx => by simp [hx]))⟩
                  have := (HRn.out.sl w0).mono (L' := ((Bn ++ Bx) ++ N) ++ X) (fun x hx => by simp [hx])
                  simpa using this
              · have hd8 : ((fi : Int) + (k : Int) == (tk.length : Int)) = false := by rw [beq_eq_false_iff_ne]; omega
                have HAD := Lib.hid hadd
                have HTL := Lib.hid htl
                clear hadd htl
                go_wp2
                exact ⟨⟨k + 1, at_, ct, tk, N, by simp, by omega, by rw [took_step _ _ _ _ hlt, if_neg (by have := HTL.out; have := HAD.out; omega)]; exact HTK.out, HO8.out, HT8.out⟩, by simp [intOf]; omega⟩
            · obtain rfl : k = ms.length := by omega
              have d0 := hbR.cell 0
              have d1 := hbR.cell 1
              have d2 := hbR.cell 2
              have d3 := hbR.cell 3
              have d4 := hbR.cell 4
              have d5 := hbR.cell 5
              have d6 := hbR.cell 6
              have d7 := hbR.cell 7
              have d8 := hbR.cell 8
              have d9 := hbR.cell 9
              have HO9 := Lib.hid (O8.perm (L' := ⟨w.heap.size + 2, 27, #[.int .i64 0, .int .i64 0, .slice none 0 0, .int .i64 0, .int .i64 0, .slice none 0 0, .int .i64 0, .int .i64 0, .bool false, .bool false]⟩ :: (⟨w.heap.size, 27, #[.int .i64 R.most, .int .i64 R.again, .slice a1 R.said.length c1, .int .i64 h1m, .int .i64 o1m, .slice at_ tk.length ct, .int .i64 R.gave, .int .i64 R.last, .bool R.went, .bool true]⟩ :: (⟨w.heap.size + 1, 68, #[.int .i64 fi, .slice av ms.length cv, .int .i64 he]⟩ :: (N ++ Y)))) (perm_cnt fun x => by simp only [cnt_append, cnt_cons, cnt_nil] <;> omega))
              clear O8 hbR hbP ht8 htk htl
              go_wp2_with (refine wpList_store_ow rfl 27 (.tmp 4) (.tmp 99) rfl HO9.out (by rfl) #[.int .i64 R.most, .int .i64 R.again, .slice a1 R.said.length c1, .int .i64 h1m, .int .i64 o1m, .slice at_ tk.length ct, .int .i64 R.gave, .int .i64 R.last, .bool R.went, .bool true] (by rfl) (by kernel_rfl) (by rfl) (by simp [Value.oneCell']) ?_; intro w6 O6; (have e0 := (O6.has (List.mem_cons_self ..)).cell 0); (have e1 := (O6.has (List.mem_cons_self ..)).cell 1); (have e2 := (O6.has (List.mem_cons_self ..)).cell 2); (have e3 := (O6.has (List.mem_cons_self ..)).cell 3); (have e4 := (O6.has (List.mem_cons_self ..)).cell 4); (have e5 := (O6.has (List.mem_cons_self ..)).cell 5); (have e6 := (O6.has (List.mem_cons_self ..)).cell 6); (have e7 := (O6.has (List.mem_cons_self ..)).cell 7); (have e8 := (O6.has (List.mem_cons_self ..)).cell 8); (have e9 := (O6.has (List.mem_cons_self ..)).cell 9); (have HO7 := Lib.hid O6); clear O6)
              refine bodyPost_ret (v := .tuple #[.agg #[.int .i64 R.most, .int .i64 R.again, .slice a1 R.said.length c1, .int .i64 h1m, .int .i64 o1m, .slice at_ tk.length ct, .int .i64 R.gave, .int .i64 R.last, .bool R.went, .bool true], .int .i64 0]) (by simp [results, Try.results32, go_sem, e0, e1, e2, e3, e4, e5, e6, e7, e8, e9]) rfl ?_
              have eR : R' = { R with heard := h1m, out := o1m, owes := true, took := tk } := by
                rw [← HR'.out]
                unfold rHear
                rw [HM1.out, HM2.out, if_neg hE, HTK.out, List.take_length]
                simp [hs0]
              have hc0 : c = 0 := by rw [← HC.out, if_neg hE]
              subst eR hc0
              exact ⟨.slice at_ tk.length ct, N, rfl, HO7.out.drop1.drop1.drop1, HT8.out⟩

end Go.Proofs.Ytgjodjkmefdilaa
