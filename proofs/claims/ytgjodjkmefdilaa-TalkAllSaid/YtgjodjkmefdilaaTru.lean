/- talk: the reference's Tick, joined. -/
import Derived.Test.YtgjodjkmefdilaaTrt
namespace Go.Proofs.Ytgjodjkmefdilaa
set_option linter.unusedSimpArgs false
set_option linter.unusedVariables false
open Go.RowKit

theorem MsgL.src {w w0 : World} {X Y : List Blk} {ao : Option Addr} {n cap : Nat} {ms : List (List UInt8)} (h : MsgL w0 X (.slice ao n cap) ms) (O : Ow w w0 Y) (hX : Sub X Y) : ∃ us, us.length = ms.length ∧ Msgs w0 X us ms ∧ (us = [] ∨ ∃ r o, ao = some ⟨r, o, none⟩ ∧ r < w.heap.size ∧ ∀ j u, us[j]? = some u → w.cell? ⟨r, o + j, none⟩ = some u) := by
  obtain ⟨us, hs, hm⟩ := h
  refine ⟨us, hs.1, hm, ?_⟩
  by_cases h0 : ms.length = 0
  · left; exact List.eq_nil_of_length_eq_zero (by rw [hs.1]; exact h0)
  · right
    have hs' := hs
    obtain ⟨a, c, e, -⟩ := hs'.slice
    cases e
    exact hs.open_ O hX (by omega)
theorem rTick_yes (R : RS) (vs vt : Value) (now : Nat) (w w0 : World) (X Y : List Blk) (O : Ow w w0 Y) (hX : Sub X Y) (hM : RM w0 X R vs vt) (hR : RW 1000000 R) (hn : now ≤ 4611686018427387904) (hd : rDue R now = true) :
    Calls Try.prog 29 #[.agg (rcs R vs vt), .int .i64 now] w fun e w' => ∃ u N, e = .returned (.tuple #[.agg (rcs (rTick R now) vs vt), .agg #[.int .i64 R.heard, u, .int .i64 R.took.length], .bool true]) ∧ Ow w' w0 (N ++ Y) ∧ MsgL w0 (N ++ X) u (R.said.drop R.heard) := by
  obtain ⟨hs, ht⟩ := hM
  obtain ⟨a1, c1, rfl⟩ := hs.slice
  obtain ⟨a2, c2, rfl⟩ := ht.slice
  obtain ⟨us, hul, hum, huc⟩ := hs.src O hX
  refine (rTick_walk R a1 a2 c1 c2 now w us hul hum.one hs.cap huc hR hn hd).mono ?_
  rintro e w' ⟨u, B, rfl, O', Rr⟩
  have hl : (R.said.drop R.heard).length = R.said.length - R.heard := by simp
  refine ⟨u, B, rfl, O.join O', us.drop R.heard, ?_, (hum.drop R.heard).mono (Sub.app _ _)⟩
  rw [hl]
  exact (Rr.sl w0).mono (by intro x hx; simp [hx])

set_option maxRecDepth 100000 in
set_option maxHeartbeats 4000000 in
theorem rHear_no (R : RS) (vs vt v : Value) (fi he : Int) (ms : List (List UInt8)) (w w0 : World) (X Y : List Blk) (O : Ow w w0 Y) (hX : Sub X Y) (hM : RM w0 X R vs vt) (hR : RW 1000000 R) (hn : ms.length ≤ 1000000000) (hv : MsgL w [] v ms) (hb : rRight R fi ms he = false) :
    Calls Try.prog 32 #[.agg (rcs R vs vt), .agg #[.int .i64 fi, v, .int .i64 he]] w fun e w' => e = .returned (.tuple #[.agg (rcs R vs vt), .int .i64 2]) ∧ Ow w' w0 Y := by
  obtain ⟨a1, c1, rfl⟩ := hM.1.slice
  obtain ⟨a2, c2, rfl⟩ := hM.2.slice
  obtain ⟨av, cv, rfl⟩ := hv.slice
  have h1 := hR.said
  have HO := Lib.hid O
  have HV := Lib.hid hv
  clear hM O hv
  simp only [rcs]
  unfold rRight at hb
  by_cases k1 : fi < 0
  · skip
    go_enter Try.func32, Try.ntmps32
    go_wp2
    refine bodyPost_ret (v := .tuple #[.agg #[.int .i64 R.most, .int .i64 R.again, .slice a1 R.said.length c1, .int .i64 R.heard, .int .i64 R.out, .slice a2 R.took.length c2, .int .i64 R.gave, .int .i64 R.last, .bool R.went, .bool R.owes], .int .i64 2]) (by simp [results, Try.results32, go_sem]) rfl ⟨rfl, ((HO.out.alloc _).alloc _).alloc _⟩
  · have e1 : decide (0 ≤ fi) = true := decide_eq_true (by omega)
    rw [e1] at hb
    by_cases k2 : he < 0
    · skip
      go_enter Try.func32, Try.ntmps32
      go_wp2
      refine bodyPost_ret (v := .tuple #[.agg #[.int .i64 R.most, .int .i64 R.again, .slice a1 R.said.length c1, .int .i64 R.heard, .int .i64 R.out, .slice a2 R.took.length c2, .int .i64 R.gave, .int .i64 R.last, .bool R.went, .bool R.owes], .int .i64 2]) (by simp [results, Try.results32, go_sem]) rfl ⟨rfl, ((HO.out.alloc _).alloc _).alloc _⟩
    · have e2 : decide (0 ≤ he) = true := decide_eq_true (by omega)
      rw [e2] at hb
      by_cases k3 : 64 < ms.length
      · have e3 : decide ((64 : Int) < (ms.length : Int)) = true := decide_eq_true (by omega)
        go_enter Try.func32, Try.ntmps32
        go_wp2
        refine bodyPost_ret (v := .tuple #[.agg #[.int .i64 R.most, .int .i64 R.again, .slice a1 R.said.length c1, .int .i64 R.heard, .int .i64 R.out, .slice a2 R.took.length c2, .int .i64 R.gave, .int .i64 R.last, .bool R.went, .bool R.owes], .int .i64 2]) (by simp [results, Try.results32, go_sem]) rfl ⟨rfl, ((HO.out.alloc _).alloc _).alloc _⟩
      · have e3 : decide (ms.length ≤ 64) = true := decide_eq_true (by omega)
        have e3' : decide ((64 : Int) < (ms.length : Int)) = false := decide_eq_false (by omega)
        rw [e3] at hb
        by_cases k4 : (R.said.length : Int) < he
        · skip
          go_enter Try.func32, Try.ntmps32
          go_wp2
          refine bodyPost_ret (v := .tuple #[.agg #[.int .i64 R.most, .int .i64 R.again, .slice a1 R.said.length c1, .int .i64 R.heard, .int .i64 R.out, .slice a2 R.took.length c2, .int .i64 R.gave, .int .i64 R.last, .bool R.went, .bool R.owes], .int .i64 2]) (by simp [results, Try.results32, go_sem]) rfl ⟨rfl, ((HO.out.alloc _).alloc _).alloc _⟩
        · have e4 : decide (he ≤ (R.said.length : Int)) = true := decide_eq_true (by omega)
          rw [e4] at hb
          have hl : longL ms = true := by simpa using hb
          clear hb
          go_enter Try.func32, Try.ntmps32
          go_wp2_with fail
          go_loopw [6] (fun vi wr => ∃ k : Nat, vi = .int .i64 k ∧ k ≤ ms.length ∧ (∀ j, j < k → (ms.getD j []).length ≤ 4096) ∧ Ow wr w [⟨w.heap.size + 2, 27, #[.int .i64 0, .int .i64 0, .slice none 0 0, .int .i64 0, .int .i64 0, .slice none 0 0, .int .i64 0, .int .i64 0, .bool false, .bool false]⟩, ⟨w.heap.size + 1, 68, #[.int .i64 fi, .slice av ms.length cv, .int .i64 he]⟩, ⟨w.heap.size, 27, #[.int .i64 R.most, .int .i64 R.again, .slice a1 R.said.length c1, .int .i64 R.heard, .int .i64 R.out, .slice a2 R.took.length c2, .int .i64 R.gave, .int .i64 R.last, .bool R.went, .bool R.owes]⟩]) (fun i _ => ms.length - (intOf i).toNat)
          case atStart => exact ⟨0, rfl, by omega, fun j hj => by omega, (((Ow.start w).key #[.int .i64 R.most, .int .i64 R.again, .slice a1 R.said.length c1, .int .i64 R.heard, .int .i64 R.out, .slice a2 R.took.length c2, .int .i64 R.gave, .int .i64 R.last, .bool R.went, .bool R.owes] 27 w.heap.size rfl).key #[.int .i64 fi, .slice av ms.length cv, .int .i64 he] 68 (w.heap.size + 1) (by simp)).key #[.int .i64 0, .int .i64 0, .slice none 0 0, .int .i64 0, .int .i64 0, .slice none 0 0, .int .i64 0, .int .i64 0, .bool false, .bool false] 27 (w.heap.size + 2) (by simp)⟩
          case round =>
            obtain ⟨k, rfl, hk, hj, O5⟩ := hrel
            have HO5 := Lib.hid O5
            have HJ := Lib.hid hj
            have hbR := O5.has (b := w.heap.size) (t := 27) (cs := #[.int .i64 R.most, .int .i64 R.again, .slice a1 R.said.length c1, .int .i64 R.heard, .int .i64 R.out, .slice a2 R.took.length c2, .int .i64 R.gave, .int .i64 R.last, .bool R.went, .bool R.owes]) (by simp)
            have hbP := O5.has (b := w.heap.size + 1) (t := 68) (cs := #[.int .i64 fi, .slice av ms.length cv, .int .i64 he]) (by simp)
            have p1 := hbP.cell 1
            have ltp := hbP.lt
            by_cases hlt : k < ms.length
            · obtain ⟨r, o, ak, ck, rfl, hr, hc, hm⟩ := HV.out.at_ O5 sub_nil k hlt
              obtain ⟨m, HMk⟩ : ∃ m, Hid (ms.getD k [] = m) := ⟨_, rfl⟩
              rw [HMk.out] at hc
              cases hb : decide (4096 < m.length) with
              | true =>
                have hd5 : decide ((4096 : Int) < (m.length : Int)) = true := by simp at hb ⊢; omega
                have d0 := hbR.cell 0
                have d1 := hbR.cell 1
                have d2 := hbR.cell 2
                have d3 := hbR.cell 3
                have d4 := hbR.cell 4
                have d5 := hbR.cell 5
                have d6 := hbR.cell 6
                have d7 := hbR.cell 7
                have d8 := hbR.cell 8
                have d9 := hbR.cell 9
                have ltr := hbR.lt
                have HO6 := Lib.hid (O5)
                clear O5 hj hm hbR hbP
                go_wp2_with (refine wpList_store_ow rfl 27 (.tmp 4) (.tmp 45) rfl HO6.out (by rfl) #[.int .i64 R.most, .int .i64 R.again, .slice a1 R.said.length c1, .int .i64 R.heard, .int .i64 R.out, .slice a2 R.took.length c2, .int .i64 R.gave, .int .i64 R.last, .bool R.went, .bool R.owes] (by rfl) (by kernel_rfl) (by rfl) (by simp [Value.oneCell']) ?_; intro w6 O6; (have e0 := (O6.has (List.mem_cons_self ..)).cell 0); (have e1 := (O6.has (List.mem_cons_self ..)).cell 1); (have e2 := (O6.has (List.mem_cons_self ..)).cell 2); (have e3 := (O6.has (List.mem_cons_self ..)).cell 3); (have e4 := (O6.has (List.mem_cons_self ..)).cell 4); (have e5 := (O6.has (List.mem_cons_self ..)).cell 5); (have e6 := (O6.has (List.mem_cons_self ..)).cell 6); (have e7 := (O6.has (List.mem_cons_self ..)).cell 7); (have e8 := (O6.has (List.mem_cons_self ..)).cell 8); (have e9 := (O6.has (List.mem_cons_self ..)).cell 9); (have HO7 := Lib.hid O6); clear O6)
                refine bodyPost_ret (v := .tuple #[.agg #[.int .i64 R.most, .int .i64 R.again, .slice a1 R.said.length c1, .int .i64 R.heard, .int .i64 R.out, .slice a2 R.took.length c2, .int .i64 R.gave, .int .i64 R.last, .bool R.went, .bool R.owes], .int .i64 2]) (by simp [results, Try.results32, go_sem, e0, e1, e2, e3, e4, e5, e6, e7, e8, e9]) rfl ⟨rfl, HO.out.of_below HO7.out.below⟩
              | false =>
                have hd5 : decide ((4096 : Int) < (m.length : Int)) = false := by simp at hb ⊢; omega
                clear O5 hj hm hbR hbP
                go_wp2
                refine ⟨⟨k + 1, by simp, by omega, fun j hj => ?_, HO5.out⟩, by simp [intOf]; omega⟩
                rcases Nat.lt_succ_iff_lt_or_eq.1 hj with h | rfl
                · exact HJ.out j h
                · rw [HMk.out]; simpa using hb
            · obtain rfl : k = ms.length := by omega
              rw [longL_no hj] at hl
              cases hl

end Go.Proofs.Ytgjodjkmefdilaa
