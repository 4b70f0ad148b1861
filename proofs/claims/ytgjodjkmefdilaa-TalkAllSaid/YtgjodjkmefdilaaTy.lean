/- talk: contract of Say. -/
import Derived.Test.YtgjodjkmefdilaaTs
import Derived.Test.YtgjodjkmefdilaaRd
namespace Go.Proofs.Ytgjodjkmefdilaa
set_option linter.unusedSimpArgs false
set_option linter.unusedVariables false
open Go.RowKit

/-- What Say answers, and what the Talker is behind it. -/
def sayE (T : TS) (m : List UInt8) : Nat := if 4096 < m.length then 5 else if T.most ≤ T.waits.length then 8 else 0
def sayT (T : TS) (m : List UInt8) : TS := if 4096 < m.length then T else if T.most ≤ T.waits.length then T else { T with waits := T.waits ++ [m], said := T.said + 1 }

theorem then_go {P : Program} {c : Code} {Q' Q : Exit → Act → World → Prop} {K : Act → World → Prop} {a : Act} {w : World} (hK : ∀ a w, c.wp P Q' a w → K a w) (h : c.wp P Q' a w) : Exit.then K Q .normal a w := hK _ _ h
theorem Ow.front {w w0 : World} {x : Blk} {A R : List Blk} (h : Ow w w0 (x :: (A ++ R))) : Ow w w0 (A ++ (x :: R)) := h.perm List.perm_middle.symm
theorem Ow.unfront {w w0 : World} {x : Blk} {A R : List Blk} (h : Ow w w0 (A ++ (x :: R))) : Ow w w0 (x :: (A ++ R)) := h.perm List.perm_middle
theorem Ow.split {w w0 : World} {A R : List Blk} (h : Ow w w0 (A ++ R)) : New w0 A := fun x hx => h.new x (by simp [hx])
theorem Ow.mk3 {w w0 : World} {A R : List Blk} (M : Mem w w0 (A ++ R)) (hA : New w0 A) (hR : ∀ x ∈ R, w0.heap.size ≤ x.no) : Ow w w0 (A ++ R) := ⟨M, hA.app hR⟩
theorem Ow.mk2 {w w0 : World} {A R : List Blk} (M : Mem w w0 (A ++ R)) (hA : New w0 A) {A' : List Blk} {w' : World} (h : Ow w' w0 (A' ++ R)) : Ow w w0 (A ++ R) := ⟨M, fun x hx => by
  rcases List.mem_append.1 hx with hx | hx
  · exact hA x hx
  · exact h.new x (by simp [hx])⟩

set_option maxRecDepth 100000 in
set_option maxHeartbeats 2000000 in
theorem say_ok (p : Nat) (T : TS) (B F L : List Blk) (v : Value) (m : List UInt8) (hm : m.length ≤ 4096) (hw : T.waits.length < T.most) (hmost : T.most ≤ 64) (hsaid : T.said ≤ 1000000) (w w0 : World) (O : Ow w w0 (B ++ F)) (hL : ∀ x ∈ L, x ∈ F) (hT : TkB w0 L p T B) (hv : BSl w v m) (T' : TS) (hT' : { T with waits := T.waits ++ [m], said := T.said + 1 } = T') :
    Calls Try.prog 22 #[ptr p, v] w fun e w' => e = .returned (.int .i64 0) ∧ ∃ N B', Ow w' w0 (B' ++ (N ++ F)) ∧ TkB w0 (N ++ L) p T' B' := by
  obtain ⟨vw, ws, Bw, vg, gs, Bg, Rw, Mw, Rg, Mg, O', HB, -⟩ := hT.open_ O
  have c0 := HB.cell 0
  have c2 := HB.cell 2
  have hlt := HB.lt
  obtain ⟨ao, cap, rfl⟩ := Rw.slice
  simp only [tcs] at c0 c2
  obtain ⟨ao1, cap1, rfl, -⟩ := hv.open_
  have HV := Lib.hid hv
  have HO := Lib.hid O'
  have HRW := Lib.hid Rw
  have HMW := Lib.hid Mw
  have HRG := Lib.hid Rg
  have HMG := Lib.hid Mg
  have HT' := Lib.hid hT'
  have HL := Lib.hid hL
  clear O O' HB Rw Mw Rg Mg hT hv hT' hL
  go_enter Try.func22, Try.ntmps22
  go_wp2
  refine wp_region_rq (by kernel_rfl) (by kernel_rfl) (by kernel_rfl) ?_
  repeat (first
    | (refine B_skip ?_ ?_; (· rfl); (try simp only [Act.put, List.setIfInBounds_toArray, List.set_cons_zero, List.set_cons_succ]))
    | (refine B_move rfl ?_ ?_; (· rfl); (try simp only [Act.eval, Act.put, Array.getD_eq_getD_getElem?, List.getElem?_toArray, List.getElem?_cons_succ, List.getElem?_cons_zero, Option.getD_some, List.setIfInBounds_toArray, List.set_cons_zero, List.set_cons_succ]))
    | (refine B_plain ?_ ?_; (· rfl); intro K hK; go_big_quiet_op; with_reducible refine hK _ ?_; clear hK K)
    | (refine B_nilck rfl rfl ?_ ?_; (· rfl); (try simp only [Act.put, List.setIfInBounds_toArray, List.set_cons_zero, List.set_cons_succ])))
  refine B_nil ?_ rfl ?_ ?_
  · kernel_rfl
  · rfl
  rintro _ ⟨⟨g1, d1⟩, rfl⟩
  simp only [fin, Act.put, List.setIfInBounds_toArray, List.set_cons_zero, List.set_cons_succ]
  go_wp2
  refine wp_opq (fun W => Ow W w0 (⟨p, 84, tcs T (.slice ao T.waits.length cap) vg⟩ :: (Bw ++ (Bg ++ F))) ∧ BSl W (.slice ao1 m.length cap1) m) ⟨HO.out.plus _ _, HV.out.plus _ _⟩ ?_
  rintro w2 ⟨O2, V2⟩
  have HB := O2.has (List.mem_cons_self ..)
  have c2 := HB.cell 2
  have hlt := HB.lt
  simp only [tcs] at c2
  have HO2 := Lib.hid O2
  have T3 : Hid (∀ g d, Calls Try.prog 38 #[.slice ao1 m.length cap1] (plus w2 g d) fun e w' => ∃ u, e = .returned u ∧ Below (plus w2 g d).heap.size (plus w2 g d) w' ∧ Clo 5 w2.heap.size m u w') := fun g d => by
    refine (cloneB_any _ m (by omega) _ (V2.plus g d)).mono ?_
    rintro e w' ⟨u, h1, h2, h3⟩
    exact ⟨u, h1, h2, h3.base (by simp)⟩
  clear O2 V2 HB
  refine wp_region_rdk 8 5 rfl rfl (by kernel_rfl) (by kernel_rfl) (by kernel_rfl) (by kernel_rfl) (by kernel_rfl) (by rfl) ?_
  simp only [List.take_succ_cons, List.take_zero, Act.put, List.setIfInBounds_toArray, List.set_cons_zero, List.set_cons_succ]
  repeat (first
    | (refine B_skip ?_ ?_; (· rfl); (try simp only [Act.put, List.setIfInBounds_toArray, List.set_cons_zero, List.set_cons_succ]))
    | (refine B_move rfl ?_ ?_; (· rfl); (try simp only [Act.eval, Act.put, Array.getD_eq_getD_getElem?, List.getElem?_toArray, List.getElem?_cons_succ, List.getElem?_cons_zero, Option.getD_some, List.setIfInBounds_toArray, List.set_cons_zero, List.set_cons_succ]))
    | (refine B_plain ?_ ?_; (· rfl); intro K hK; go_big_quiet_op; with_reducible refine hK _ ?_; clear hK K)
    | (refine B_callR (Clo 5 w2.heap.size m) (stays_clo _ _ _) (f := 38) rfl rfl (by kernel_rfl) ?_ (fun xq => ?_) ?_; (· rfl); (· ((simp only [List.map_toArray, List.map_cons, List.map_nil, Act.eval, Array.getD_eq_getD_getElem?, List.getElem?_toArray, List.getElem?_cons_succ, List.getElem?_cons_zero, Option.getD_some]); (with_reducible apply retR); with_reducible exact T3.out _ _)))
    | (refine B_nilck rfl rfl ?_ ?_; (· rfl); (try simp only [Act.put, List.setIfInBounds_toArray, List.set_cons_zero, List.set_cons_succ]))
    | (refine B_newslP elt_msg rfl (s := 29) rfl rfl (stays_clo _ _ _) (clo_slice _ _ _) ?_ ?_; (· rfl)))
  refine B_nil ?_ rfl ?_ ?_
  · kernel_rfl
  · rfl
  rintro _ ⟨⟨g2, d2⟩, rfl⟩
  simp only [fin, Act.put, List.setIfInBounds_toArray, List.set_cons_zero, List.set_cons_succ]
  rintro _ ⟨b, u, rfl, hb1, hb2, hu⟩ _ -
  obtain ⟨N, ON, MN⟩ := hu.found HO2.out ⟨⟨_, _⟩, rfl⟩
  have ON1 := Lib.hid (ON.perm (L' := Bw ++ (⟨p, 84, tcs T (.slice ao T.waits.length cap) vg⟩ :: (Bg ++ (N ++ F)))) (perm_cnt fun x => by simp only [cnt_append, cnt_cons, cnt_nil] <;> omega))
  refine step_one (n := 4) (k := 9) (by kernel_rfl) (by rfl) (by rfl) ?_
  intro K hK
  refine wp_append_row (.tmp 27) (.tmp 30) 25 rfl elt_msg ON1.out.mem ON1.out.split _ _ _ (by rfl) HRW.out _ _ _ [u] (by rfl) (by simp) (by simp) (blk_news hb2) (by simp [MN.one]) (by unfold maxLen; omega) (by omega) _ rfl _ rfl (fun ao' cap' B' w' R' M' hB' => hK _ _ ?_)
  clear hK K
  have O3 : Ow w' w0 (B' ++ (⟨p, 84, tcs T (.slice ao T.waits.length cap) vg⟩ :: (Bg ++ (N ++ F)))) := Ow.mk3 M' hB' (fun x hx => ON1.out.new x (List.mem_append_right _ hx))
  have HB3 := O3.has (List.mem_append_right _ (List.mem_cons_self ..))
  have lt3 := HB3.lt
  have c32 := HB3.cell 2
  have f32 := HB3.frozen 2
  simp only [tcs] at c32
  have HO3 := Lib.hid O3
  have HR3 := Lib.hid R'
  clear O3 R' M' hB' HB3
  refine step_one (n := 3) (k := 10) (by kernel_rfl) (by rfl) (by rfl) ?_
  intro K hK
  go_simp
  refine hK _ _ ?_
  clear hK K
  refine step_one (n := 2) (k := 11) (by kernel_rfl) (by rfl) (by rfl) ?_
  intro K hK
  go_simp
  refine hK _ _ ?_
  clear hK K
  refine step_one (n := 1) (k := 12) (by kernel_rfl) (by rfl) (by rfl) ?_
  intro K hK
  go_simp
  refine hK _ _ ?_
  clear hK K
  refine last_one (k := 13) (by kernel_rfl) (by kernel_rfl) (by rfl) ?_ ?_
  · rfl
  intro K hK
  go_simp
  refine hK _ _ ?_
  clear hK K
  refine ⟨rfl, ?_⟩
  refine then_go (by assumption) ?_
  refine wp_opq (fun W => Ow W w0 (⟨p, 84, #[.int .i64 T.most, .int .i64 T.again, .slice ao' (T.waits.length + 1) cap', .int .i64 T.gone, .int .i64 T.said, vg, .int .i64 T.heard, .int .i64 T.last, .bool T.went, .bool T.owes]⟩ :: (B' ++ (Bg ++ (N ++ F))))) ((HO3.out.unfront.set 2 _).as (by simp [tcs])) ?_
  intro w4 O4
  have HB4 := O4.has (List.mem_cons_self ..)
  have lt4 := HB4.lt
  have c44 := HB4.cell 4
  have f44 := HB4.frozen 4
  have HO4 := Lib.hid O4
  clear O4 HB4
  go_wp2
  go_ret
  obtain rfl := HT'.out
  refine ⟨rfl, N, ⟨p, 84, tcs { T with waits := T.waits ++ [m], said := T.said + 1 } (.slice ao' (T.waits.length + 1) cap') vg⟩ :: (B' ++ Bg), ?_, _, ws ++ [u], B', _, gs, Bg, rfl, ?_, ?_, HRG.out, HMG.out.mono (by intro x hx; simp [hx])⟩
  · have O5 := HO4.out.set 4 (.int .i64 ((T.said : Int) + 1))
    simpa [tcs] using O5
  · simpa using HR3.out
  · exact (HMW.out.mono (by intro x hx; simp [hx])).snoc (MN.mono (by intro x hx; simp [hx]))

end Go.Proofs.Ytgjodjkmefdilaa
