/- The law VeilOwn: its walk. -/
import Derived.Test.YthdcfdfpfagamaaVc
namespace Go.Proofs.Ythdcfdfpfagamaa
set_option linter.unusedSimpArgs false
set_option linter.unusedVariables false
open Go.RowKit

theorem byt_set {m : Nat} {cur : Array Value} (h : ∀ j, j < m → ∃ z : Int, cur[j]? = some (.int .u8 z)) (k : Nat) (z : Int) : ∀ j, j < m → ∃ z' : Int, (cur.setIfInBounds k (.int .u8 z))[j]? = some (.int .u8 z') := fun j hj => by
  obtain ⟨y, hy⟩ := h j hj
  rw [Array.getElem?_setIfInBounds]
  split
  · rename_i he
    subst he
    have := (Array.getElem?_eq_some_iff.1 hy).1
    rw [if_pos this]
    exact ⟨z, rfl⟩
  · exact ⟨y, hy⟩
theorem Row.at_ {e : TypeId} {sz n cap : Nat} {ao : Option Addr} {xs : List Value} {B : List Blk} (h : Row e sz (.slice ao n cap) n xs B) : ao = none ∨ ∃ r cur, ao = some ⟨r, 0, none⟩ ∧ B = [⟨r, e, cur⟩] := by
  cases h with
  | void => exact .inl rfl
  | one r n cap cur h1 h2 h3 => exact .inr ⟨r, cur, rfl, rfl⟩

set_option maxRecDepth 100000 in
set_option maxHeartbeats 4000000 in
theorem veilOwn_any (k : BitVec 64) (v : Value) (l : List UInt8) (n : Int) (bn : 0 ≤ n ∧ n ≤ 255) (w : World) (hv : BSl w v l) :
    Calls Try.prog 17 #[.agg #[.int .u8 (by8 k 0), .int .u8 (by8 k 1), .int .u8 (by8 k 2), .int .u8 (by8 k 3), .int .u8 (by8 k 4), .int .u8 (by8 k 5), .int .u8 (by8 k 6), .int .u8 (by8 k 7)], v, .int .u8 n] w fun e w' => e = .returned (.bool true) ∧ Below w.heap.size w w' := by
  obtain ⟨x, HX⟩ : ∃ x, Hid (l.take 300 = x) := ⟨_, rfl⟩
  have hxl : x.length ≤ 300 := by rw [← HX.out]; simp; omega
  obtain ⟨p, HP⟩ : ∃ p, Hid (1 :: x = p) := ⟨_, rfl⟩
  have hpl : 1 + x.length = p.length := by rw [← HP.out]; simp; omega
  have HPB : Hid ([Value.int .u8 1] ++ bcs x = bcs p) := by show _ = _; rw [← HP.out]; rfl
  have hp6 : p.length ≤ 65536 := by omega
  obtain ⟨y, HY⟩ : ∃ y, Hid (sealF k p = y) := ⟨_, rfl⟩
  have hyl : y.length ≤ 9223372036854775807 := by rw [← HY.out, sealF_len]; omega
  have hy0 : 0 < y.length := by rw [← HY.out, sealF_len]; omega
  have HO : Hid (openF k y = (p, 0)) := by show _ = _; rw [← HY.out]; exact open_sealF k p hp6
  obtain ⟨sp, HSP⟩ : ∃ s : ByteArray, Hid ({ data := p.toArray } = s) := ⟨_, rfl⟩
  obtain ⟨sy, HSY⟩ : ∃ s : ByteArray, Hid ({ data := y.toArray } = s) := ⟨_, rfl⟩
  have hbp : (sp == sp) = true := by rw [← HSP.out]; exact beq_str p
  have hby : (sy == sy) = true := by rw [← HSY.out]; exact beq_str y
  have SP : ∀ (W : World) (v : Value), BSl W v p → (convert 28 9 v).run Try.prog W = .ok (.string sp) W := fun W v h => by rw [← HSP.out]; exact run_str' W v p h
  have SY : ∀ (W : World) (v : Value), BSl W v y → (convert 28 9 v).run Try.prog W = .ok (.string sy) W := fun W v h => by rw [← HSY.out]; exact run_str' W v y h
  obtain ⟨ao, cap, rfl, hcap, -⟩ := hv.open_
  have hvx := few_bsl HX.out hv
  have hno := hvx.cells.2.1
  have HV := Lib.hid ((hvx.alloc (.cells #[.int .u8 (by8 k 0), .int .u8 (by8 k 1), .int .u8 (by8 k 2), .int .u8 (by8 k 3), .int .u8 (by8 k 4), .int .u8 (by8 k 5), .int .u8 (by8 k 6), .int .u8 (by8 k 7)] 24)).alloc (.cells #[.int .u8 1] 5))
  have HM0 := Lib.hid (show Mem ((w.alloc (.cells #[.int .u8 (by8 k 0), .int .u8 (by8 k 1), .int .u8 (by8 k 2), .int .u8 (by8 k 3), .int .u8 (by8 k 4), .int .u8 (by8 k 5), .int .u8 (by8 k 6), .int .u8 (by8 k 7)] 24)).alloc (.cells #[.int .u8 1] 5)) w ([⟨w.heap.size + 1, 5, #[.int .u8 1]⟩] ++ [(⟨w.heap.size, 24, #[.int .u8 (by8 k 0), .int .u8 (by8 k 1), .int .u8 (by8 k 2), .int .u8 (by8 k 3), .int .u8 (by8 k 4), .int .u8 (by8 k 5), .int .u8 (by8 k 6), .int .u8 (by8 k 7)]⟩ : Blk)]) from ((Mem.start w).key #[.int .u8 (by8 k 0), .int .u8 (by8 k 1), .int .u8 (by8 k 2), .int .u8 (by8 k 3), .int .u8 (by8 k 4), .int .u8 (by8 k 5), .int .u8 (by8 k 6), .int .u8 (by8 k 7)] 24 w.heap.size rfl).key #[.int .u8 1] 5 (w.heap.size + 1) (by simp))
  have HN0 : Hid (New w [⟨w.heap.size + 1, 5, #[.int .u8 1]⟩]) := New.cons (Nat.le_succ _) (New.nil _)
  have HR0 : Hid (Row 5 1 (.slice (some ⟨w.heap.size + 1, 0, none⟩) 1 1) 1 [.int .u8 1] [⟨w.heap.size + 1, 5, #[.int .u8 1]⟩]) := Row.one (w.heap.size + 1) 1 1 #[.int .u8 1] (by omega) (by unfold maxLen; omega) rfl
  clear hv hvx
  go_enter Try.func17, Try.ntmps17
  go_wp2_with fail
  refine (few_eq ao cap l x HX.out hcap _).mono ?_
  rintro e w1 ⟨rfl, rfl⟩
  go_wp2_with (at_builtin; refine wpList_append_row rfl (.tmp 15) (.tmp 17) 28 rfl elt_u8 HM0.out HN0.out _ _ _ (by rfl) HR0.out _ _ _ (bcs x) (by rfl) (by rw [bcs_len]; simp) hno HV.out.cells.2.2 (bcs_one x) (by unfold maxLen; omega) (by omega) p.length hpl _ HPB.out (fun ao' cap' B' w' R' M' hB' => ?_); (have HRA := Lib.hid R'); (have HM1 := Lib.hid M'); (have HNA := Lib.hid hB'); (have hs1 := SP _ _ (R'.bsl M')); (have cK1 := M'.cell (b := w.heap.size) (t := 24) (cs := #[.int .u8 (by8 k 0), .int .u8 (by8 k 1), .int .u8 (by8 k 2), .int .u8 (by8 k 3), .int .u8 (by8 k 4), .int .u8 (by8 k 5), .int .u8 (by8 k 6), .int .u8 (by8 k 7)]) (by simp)); (have lK1 : w.heap.size < w'.heap.size := M'.lt (x := (⟨w.heap.size, 24, #[.int .u8 (by8 k 0), .int .u8 (by8 k 1), .int .u8 (by8 k 2), .int .u8 (by8 k 3), .int .u8 (by8 k 4), .int .u8 (by8 k 5), .int .u8 (by8 k 6), .int .u8 (by8 k 7)]⟩ : Blk)) (by simp)); clear R' M' hB')
  have HV1 := Lib.hid (HRA.out.bsl HM1.out)
  refine (seal_to k _ p hp6 y HY.out _ HV1.out).mono ?_
  rintro e W2 ⟨b, rfl, hB2, A2⟩
  obtain ⟨r1, cur1, rfl, rfl⟩ : ∃ r cur, ao' = some ⟨r, 0, none⟩ ∧ B' = [⟨r, 5, cur⟩] := by
    rcases HRA.out.at_ with h | h
    · subst h
      have := (HV1.out.cells.2.1 rfl).1
      omega
    · exact h
  have M2 := HM1.out.of_below hB2
  obtain ⟨bo, bcap, S, rfl, ⟨hbc, -⟩, hBy, hN2, -, M2⟩ := A2.mem M2 (fun y hy => HM1.out.lt hy) HM1.out.size
  obtain ⟨r2, t2, cur2, rfl, rfl, hcur2⟩ : ∃ r t cur, bo = some ⟨r, 0, none⟩ ∧ S = [⟨r, t, cur⟩] ∧ ∀ j, j < y.length → cur[j]? = some (.int .u8 ((y.getD j 0).toNat : Int)) := by
    rcases hBy with ⟨h, -⟩ | h
    · rw [h] at hy0; simp at hy0
    · exact h
  have hvb := A2.bsl
  have HM2 := Lib.hid (show Mem W2 w [⟨r2, t2, cur2⟩, ⟨r1, 5, cur1⟩, (⟨w.heap.size, 24, #[.int .u8 (by8 k 0), .int .u8 (by8 k 1), .int .u8 (by8 k 2), .int .u8 (by8 k 3), .int .u8 (by8 k 4), .int .u8 (by8 k 5), .int .u8 (by8 k 6), .int .u8 (by8 k 7)]⟩ : Blk)] from M2)
  have HBB := Lib.hid hvb
  have hs2 := SY _ _ hvb
  have HV2 := Lib.hid (HV1.out.below hB2)
  have hc1 : cur1[0]? = some (.int .u8 1) := by
    have h := HV2.out.cells.2.2 _ rfl 0 (.int .u8 1) (by rw [← HP.out]; rfl)
    rw [show (⟨r1, 0, none⟩ : Addr).add 0 = ⟨r1, 0, none⟩ by simp [Addr.add], M2.cell (b := r1) (t := 5) (cs := cur1) (by simp) 0] at h
    exact h
  have cK2 := M2.cell (b := w.heap.size) (t := 24) (cs := #[.int .u8 (by8 k 0), .int .u8 (by8 k 1), .int .u8 (by8 k 2), .int .u8 (by8 k 3), .int .u8 (by8 k 4), .int .u8 (by8 k 5), .int .u8 (by8 k 6), .int .u8 (by8 k 7)]) (by simp)
  have lK2 : w.heap.size < W2.heap.size := M2.lt (x := (⟨w.heap.size, 24, #[.int .u8 (by8 k 0), .int .u8 (by8 k 1), .int .u8 (by8 k 2), .int .u8 (by8 k 3), .int .u8 (by8 k 4), .int .u8 (by8 k 5), .int .u8 (by8 k 6), .int .u8 (by8 k 7)]⟩ : Blk)) (by simp)
  have HC2 := Lib.hid hcur2
  have HN2 := Lib.hid hN2
  clear hN2
  clear M2 hvb hB2 A2 cK1 lK1 hs1 hBy hcur2
  go_wp2_with fail
  refine (open_any k _ y hyl p 0 HO.out W2 HBB.out).mono ?_
  rintro e W3 ⟨u, rfl, hB3, A3⟩
  obtain ⟨uo, ucap, S3, rfl, ⟨huc, -⟩, hBy3, hN3, -, M3⟩ := A3.mem (HM2.out.of_below hB3) (fun y hy => HM2.out.lt hy) HM2.out.size
  obtain ⟨r3, t3, cur3, rfl, rfl, hcur3⟩ : ∃ r t cur, uo = some ⟨r, 0, none⟩ ∧ S3 = [⟨r, t, cur⟩] ∧ ∀ j, j < p.length → cur[j]? = some (.int .u8 ((p.getD j 0).toNat : Int)) := by
    rcases hBy3 with ⟨h, -⟩ | h
    · rw [h] at hpl; simp at hpl
    · exact h
  have HM3 := Lib.hid (show Mem W3 w [⟨r3, t3, cur3⟩, ⟨r2, t2, cur2⟩, ⟨r1, 5, cur1⟩, (⟨w.heap.size, 24, #[.int .u8 (by8 k 0), .int .u8 (by8 k 1), .int .u8 (by8 k 2), .int .u8 (by8 k 3), .int .u8 (by8 k 4), .int .u8 (by8 k 5), .int .u8 (by8 k 6), .int .u8 (by8 k 7)]⟩ : Blk)] from M3)
  have HVP := Lib.hid (HV2.out.below hB3)
  have HVB := Lib.hid (HBB.out.below hB3)
  have HC3 : Hid (∀ j, j < p.length → ∃ z : Int, cur3[j]? = some (.int .u8 z)) := fun j hj => ⟨_, hcur3 j hj⟩
  have HNW : Hid (New w [(⟨r3, t3, cur3⟩ : Blk), ⟨r2, t2, cur2⟩, ⟨r1, 5, cur1⟩, (⟨w.heap.size, 24, #[.int .u8 (by8 k 0), .int .u8 (by8 k 1), .int .u8 (by8 k 2), .int .u8 (by8 k 3), .int .u8 (by8 k 4), .int .u8 (by8 k 5), .int .u8 (by8 k 6), .int .u8 (by8 k 7)]⟩ : Blk)]) := New.cons (hN3 _ (List.mem_cons_self ..) :) (New.cons (HN2.out _ (List.mem_cons_self ..) :) (New.cons (HNA.out _ (List.mem_cons_self ..) :) (New.cons (Nat.le_refl _) (New.nil _))))
  clear M3 hB3 A3 hBy3 hcur3 hs2 cK2 lK2
  go_wp2_with fail
  refine (told_any _).mono ?_
  rintro e w4 ⟨rfl, hb4⟩; obtain ⟨g4, d4, rfl⟩ := plus_of_below hb4; clear hb4
  have hs3 := SP _ _ (HVP.out.plus g4 d4)
  have hs4 := SY _ _ (HVB.out.plus g4 d4)
  go_wp2_with fail
  go_loopw [12] (fun i wr => ∃ (j : Nat) (cur : Array Value), i = .int .i64 j ∧ j ≤ p.length ∧ (∀ q, q < p.length → ∃ z : Int, cur[q]? = some (.int .u8 z)) ∧ Mem wr w [⟨r3, t3, cur⟩, ⟨r2, t2, cur2⟩, ⟨r1, 5, cur1⟩, (⟨w.heap.size, 24, #[.int .u8 (by8 k 0), .int .u8 (by8 k 1), .int .u8 (by8 k 2), .int .u8 (by8 k 3), .int .u8 (by8 k 4), .int .u8 (by8 k 5), .int .u8 (by8 k 6), .int .u8 (by8 k 7)]⟩ : Blk)]) (fun i _ => p.length - (intOf i).toNat)
  case atStart => exact ⟨0, cur3, rfl, by omega, HC3.out, HM3.out.plus _ _⟩
  case round =>
    clear hs3 hs4
    obtain ⟨j, cur, rfl, hj, hcur, M⟩ := hrel
    by_cases hlt : j < p.length
    · obtain ⟨zk, hzk⟩ := hcur j hlt
      have c0 : wr.cell? ⟨r3, j, none⟩ = some (.int .u8 zk) := (M.cell (b := r3) (t := t3) (cs := cur) (by simp) j).trans hzk
      have f0 : wr.frozen? ⟨r3, j, none⟩ = false := M.frozen (b := r3) (t := t3) (cs := cur) (by simp) j
      have l0 : r3 < wr.heap.size := M.lt (x := ⟨r3, t3, cur⟩) (by simp)
      have HM := Lib.hid M
      have HC := Lib.hid hcur
      clear M hcur
      go_wp2
      go_roundw
      case rel => exact ⟨j + 1, cur.setIfInBounds j (.int .u8 ((zk + n) % 256)), by go_num, by omega, byt_set HC.out j _, HM.out.set (B := []) j _⟩
      case measure => simp [intOf]; omega
    · obtain rfl : j = p.length := by omega
      have c1 : wr.cell? ⟨r1, 0, none⟩ = some (.int .u8 1) := (M.cell (b := r1) (t := 5) (cs := cur1) (by simp) 0).trans hc1
      have f1 : wr.frozen? ⟨r1, 0, none⟩ = false := M.frozen (b := r1) (t := 5) (cs := cur1) (by simp) 0
      have l1 : r1 < wr.heap.size := M.lt (x := ⟨r1, 5, cur1⟩) (by simp)
      have cK := M.cell (b := w.heap.size) (t := 24) (cs := #[.int .u8 (by8 k 0), .int .u8 (by8 k 1), .int .u8 (by8 k 2), .int .u8 (by8 k 3), .int .u8 (by8 k 4), .int .u8 (by8 k 5), .int .u8 (by8 k 6), .int .u8 (by8 k 7)]) (by simp)
      have lK : w.heap.size < wr.heap.size := M.lt (x := (⟨w.heap.size, 24, #[.int .u8 (by8 k 0), .int .u8 (by8 k 1), .int .u8 (by8 k 2), .int .u8 (by8 k 3), .int .u8 (by8 k 4), .int .u8 (by8 k 5), .int .u8 (by8 k 6), .int .u8 (by8 k 7)]⟩ : Blk)) (by simp)
      have hrk : r1 ≠ w.heap.size := by
        have := M.apart
        simp at this
        omega
      have HM := Lib.hid M
      have hp0 : (0 : Int) < (p.length : Int) := by omega
      clear M hcur
      go_wp2_with fail
      refine calls_mem (fun W => Mem W w [⟨r3, t3, cur⟩, ⟨r2, t2, cur2⟩, ⟨r1, 5, cur1.setIfInBounds 0 (.int .u8 ((1 + n) % 256))⟩, (⟨w.heap.size, 24, #[.int .u8 (by8 k 0), .int .u8 (by8 k 1), .int .u8 (by8 k 2), .int .u8 (by8 k 3), .int .u8 (by8 k 4), .int .u8 (by8 k 5), .int .u8 (by8 k 6), .int .u8 (by8 k 7)]⟩ : Blk)]) (HM.out.set2 (B := []) 0 _) ?_
      intro W5 M5
      have hvb5 := bsl_block (l := y) (cap := bcap) (show HasBlk W5 r2 t2 cur2 from M5.has ⟨r2, t2, cur2⟩ (by simp)) hbc HC2.out
      have HM5 := Lib.hid M5
      have HVB5 := Lib.hid hvb5
      clear M5 hvb5 c1 f1 l1 cK lK HM
      refine (open_any k _ y hyl p 0 HO.out W5 HVB5.out).mono ?_
      rintro e W6 ⟨u6, rfl, hB6, A6⟩
      have hs6 := SP W6 u6 A6.bsl
      have hs7 := SY W6 _ (HVB5.out.below hB6)
      have HBW := Lib.hid ((HM5.out.of_below hB6).below (fun y hy => by
        have h1 := HNW.out
        simp only [New, List.mem_cons, List.not_mem_nil, or_false, forall_eq_or_imp, forall_eq] at h1
        simp only [List.mem_cons, List.not_mem_nil, or_false] at hy
        rcases hy with rfl | rfl | rfl | rfl
        · exact h1.1
        · exact h1.2.1
        · exact h1.2.2.1
        · exact h1.2.2.2))
      clear A6 hB6 HM5 HVB5
      go_wp2
      go_ret
      exact ⟨rfl, HBW.out⟩

end Go.Proofs.Ythdcfdfpfagamaa
