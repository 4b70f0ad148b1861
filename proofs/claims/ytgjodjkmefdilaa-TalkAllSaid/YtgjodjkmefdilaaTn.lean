/- talk: contract of Clone. -/
import Derived.Test.YtgjodjkmefdilaaTh
namespace Go.Proofs.Ytgjodjkmefdilaa
set_option linter.unusedSimpArgs false
set_option linter.unusedVariables false
open Go.RowKit

set_option maxRecDepth 100000 in
set_option maxHeartbeats 1000000 in
theorem tclone_nil (w : World) : Calls Try.prog 25 #[.pointer none] w fun e w' => e = .returned (.pointer none) ∧ w' = w := by
  go_enter Try.func25, Try.ntmps25
  go_wp2
  go_ret
  exact ⟨rfl, rfl⟩

set_option maxRecDepth 100000 in
set_option maxHeartbeats 4000000 in
theorem tclone_to (p : Nat) (T : TS) (B F L : List Blk) (w w0 : World) (O : Ow w w0 (B ++ F)) (hT : TkB w0 L p T B) (hL : ∀ x ∈ L, x ∈ F) (hW : TW 1000000 T) :
    Calls Try.prog 25 #[ptr p] w fun e w' => ∃ q C N, e = .returned (ptr q) ∧ Ow w' w0 (C ++ (N ++ (B ++ F))) ∧ TkB w0 N q T C := by
  obtain ⟨vw, ws, Bw, vg, gs, Bg, Rw, Mw, Rg, Mg, O', HB, eB⟩ := hT.open_ O
  obtain ⟨aw, cw, rfl⟩ := Rw.slice
  obtain ⟨ag, cg, rfl⟩ := Rg.slice
  have hw := hW.waits
  have hm := hW.most
  have hgt := hW.got
  have HWL := Lib.hid hW.wlen
  have HGL := Lib.hid hW.glen
  have c0 := HB.cell 0
  have c1 := HB.cell 1
  have c2 := HB.cell 2
  have c3 := HB.cell 3
  have c4 := HB.cell 4
  have c5 := HB.cell 5
  have c6 := HB.cell 6
  have c7 := HB.cell 7
  have c8 := HB.cell 8
  have c9 := HB.cell 9
  have hlt := HB.lt
  simp only [tcs] at c0 c1 c2 c3 c4 c5 c6 c7 c8 c9
  have HO := Lib.hid O'
  have HRW := Lib.hid Rw
  have HMW := Lib.hid Mw
  have HRG := Lib.hid Rg
  have HMG := Lib.hid Mg
  have HL := Lib.hid hL
  have HEB := Lib.hid eB
  clear O hT hW O' HB Rw Mw Rg Mg hL eB
  go_enter Try.func25, Try.ntmps25
  go_wp2_with fail
  have O1 := HO.out.key (tcs T (.slice aw T.waits.length cw) (.slice ag T.got.length cg)) 84 w.heap.size rfl
  have ML : MsgL w0 (Bw ++ L) (.slice aw T.waits.length cw) T.waits := HRW.out.msgl HMW.out
  have ML1 := ML.here O1 (by
    intro x hx
    rcases List.mem_append.1 hx with hx | hx
    · simp [hx]
    · simp [HL.out x hx])
  have MG : MsgL w0 (Bg ++ L) (.slice ag T.got.length cg) T.got := HRG.out.msgl HMG.out
  refine (copied_any _ T.waits _ (by omega) (fun i => Nat.le_trans (getD_len HWL.out i) (by omega)) ML1).mono ?_
  rintro e w2 ⟨u, rfl, hb2, hu⟩
  obtain ⟨us, C1, N1, O2, R1, M1⟩ := hu.found O1 (Ext.of_below hb2)
  obtain ⟨a1, c1', rfl⟩ := R1.slice
  have HBq := O2.has (List.mem_append_right _ (List.mem_append_right _ (List.mem_cons_self ..)))
  have HBp := O2.has (List.mem_append_right _ (List.mem_append_right _ (List.mem_cons_of_mem _ (List.mem_cons_self ..))))
  have f2 := HBq.frozen 2
  have q2 := HBq.cell 2
  have ltq := HBq.lt
  have p5 := HBp.cell 5
  have ltp := HBp.lt
  have hpq : w.heap.size ≠ p := by omega
  have hqp : p ≠ w.heap.size := by omega
  simp only [tcs] at q2 p5
  have HO2 := Lib.hid (O2.perm (L' := ⟨w.heap.size, 84, tcs T (.slice aw T.waits.length cw) (.slice ag T.got.length cg)⟩ :: (C1 ++ (N1 ++ (⟨p, 84, tcs T (.slice aw T.waits.length cw) (.slice ag T.got.length cg)⟩ :: (Bw ++ (Bg ++ F)))))) (perm_cnt fun x => by simp only [cnt_append, cnt_cons, cnt_nil] <;> omega))
  have HR1 := Lib.hid R1
  have HM1 := Lib.hid M1
  have HMG0 := Lib.hid MG
  clear O1 ML ML1 hb2 hu O2 HBq HBp R1 M1 MG
  go_wp2_with fail
  have O3 := (HO2.out.set 2 (.slice a1 T.waits.length c1')).as (L' := ⟨w.heap.size, 84, tcs T (.slice a1 T.waits.length c1') (.slice ag T.got.length cg)⟩ :: (C1 ++ (N1 ++ (⟨p, 84, tcs T (.slice aw T.waits.length cw) (.slice ag T.got.length cg)⟩ :: (Bw ++ (Bg ++ F)))))) (by simp [tcs])
  have MG1 := HMG0.out.here O3 (by
    intro x hx
    rcases List.mem_append.1 hx with hx | hx
    · simp [hx]
    · simp [HL.out x hx])
  refine (copied_any _ T.got _ (by omega) (fun i => Nat.le_trans (getD_len HGL.out i) (by omega)) MG1).mono ?_
  rintro e w4 ⟨u, rfl, hb4, hu⟩
  obtain ⟨us2, C2, N2, O4, R2, M2⟩ := hu.found O3 (Ext.of_below hb4)
  obtain ⟨a2, c2', rfl⟩ := R2.slice
  have HBq := O4.has (List.mem_append_right _ (List.mem_append_right _ (List.mem_cons_self ..)))
  have f5 := HBq.frozen 5
  have q5 := HBq.cell 5
  have ltq := HBq.lt
  simp only [tcs] at q5
  have HO4 := Lib.hid (O4.perm (L' := ⟨w.heap.size, 84, tcs T (.slice a1 T.waits.length c1') (.slice ag T.got.length cg)⟩ :: (C1 ++ (C2 ++ (N1 ++ (N2 ++ (⟨p, 84, tcs T (.slice aw T.waits.length cw) (.slice ag T.got.length cg)⟩ :: (Bw ++ (Bg ++ F)))))))) (perm_cnt fun x => by simp only [cnt_append, cnt_cons, cnt_nil] <;> omega))
  have HR2 := Lib.hid R2
  have HM2 := Lib.hid M2
  clear O3 MG1 hb4 hu O4 HBq R2 M2
  go_wp2_with fail
  go_ret
  refine ⟨w.heap.size, ⟨w.heap.size, 84, tcs T (.slice a1 T.waits.length c1') (.slice a2 T.got.length c2')⟩ :: (C1 ++ C2), N1 ++ N2, rfl, ?_, _, us, C1, _, us2, C2, rfl, HR1.out, (HM1.out w0).mono (by intro x hx; simp [hx]), HR2.out, (HM2.out w0).mono (by intro x hx; simp [hx])⟩
  have O5 := (HO4.out.set 5 (.slice a2 T.got.length c2')).as (L' := ⟨w.heap.size, 84, tcs T (.slice a1 T.waits.length c1') (.slice a2 T.got.length c2')⟩ :: (C1 ++ (C2 ++ (N1 ++ (N2 ++ (⟨p, 84, tcs T (.slice aw T.waits.length cw) (.slice ag T.got.length cg)⟩ :: (Bw ++ (Bg ++ F)))))))) (by simp [tcs])
  rw [HEB.out]
  exact O5.perm (perm_cnt fun x => by simp only [cnt_append, cnt_cons, cnt_nil] <;> omega)

end Go.Proofs.Ytgjodjkmefdilaa
