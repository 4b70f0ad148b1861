/- talk: contract of Tick. -/
import Derived.Test.YtgjodjkmefdilaaTc
import Derived.Test.YtgjodjkmefdilaaTd
namespace Go.Proofs.Ytgjodjkmefdilaa
set_option linter.unusedSimpArgs false
set_option linter.unusedVariables false
open Go.RowKit

/-- A Talker that may be; b bounds what it counts. -/
structure TW (b : Nat) (T : TS) : Prop where
  most : T.most ≤ 64
  most0 : 1 ≤ T.most
  again : T.again ≤ 1000
  waits : T.waits.length ≤ T.most
  gone : T.gone ≤ T.waits.length
  said : T.said ≤ b
  le : T.waits.length ≤ T.said
  heard : T.heard ≤ b
  last : T.last ≤ 4611686018427387904
  got : T.got.length ≤ b
  wlen : ∀ m ∈ T.waits, m.length ≤ 4096
  glen : ∀ m ∈ T.got, m.length ≤ 4096
def tickT (T : TS) (now : Nat) : TS := { T with gone := T.waits.length, last := now, went := true, owes := false }

theorem getD_len {ms : List (List UInt8)} {n : Nat} (h : ∀ m ∈ ms, m.length ≤ n) (i : Nat) : (ms.getD i []).length ≤ n := by
  rw [List.getD_eq_getElem?_getD]
  cases hi : ms[i]? with
  | none => simp
  | some m => exact h m (List.mem_of_getElem? hi)

set_option maxRecDepth 100000 in
set_option maxHeartbeats 2000000 in
theorem tick_no (p : Nat) (T : TS) (B F L : List Blk) (w w0 : World) (O : Ow w w0 (B ++ F)) (hT : TkB w0 L p T B) (now : Nat) (hn : now ≤ 4611686018427387904) (hW : TW 1000000 T) (hd : dueT T now = false) :
    Calls Try.prog 19 #[ptr p, .int .i64 now] w fun e w' => e = .returned (.tuple #[.agg #[.int .i64 0, .slice none 0 0, .int .i64 0], .bool false]) ∧ Below w.heap.size w w' := by
  have hw := hW.waits
  have hm := hW.most
  have hg := hW.gone
  have DUE := Lib.hid (due_to p T B F L (w.alloc (.cells #[.int .i64 0, .slice none 0 0, .int .i64 0] 36)) w0 (O.alloc _) hT now hn hW.last hW.again (by omega) (by omega) false hd)
  clear O hT hW
  go_enter Try.func19, Try.ntmps19
  go_wp2_with fail
  refine DUE.out.mono ?_
  rintro e w1 ⟨rfl, hb1⟩
  obtain ⟨g1, d1, rfl⟩ := plus_of_below hb1
  clear hb1 DUE
  go_wp2
  refine bodyPost_ret (v := .tuple #[.agg #[.int .i64 0, .slice none 0 0, .int .i64 0], .bool false]) (by simp [results, Try.results19, go_sem]) rfl ⟨rfl, by (repeat' (first | (with_reducible exact Below.refl _ _) | (with_reducible refine bplus ?_ _ _) | (with_reducible refine balloc ?_ _) | (with_reducible refine Below.drew ?_) | (with_reducible refine bdrewN ?_ _) | (with_reducible refine Below.setCell ?_ (by go_size) _)))⟩

set_option maxRecDepth 100000 in
set_option maxHeartbeats 4000000 in
theorem tick_yes (p : Nat) (T : TS) (B F L : List Blk) (w w0 : World) (O : Ow w w0 (B ++ F)) (hT : TkB w0 L p T B) (hL : ∀ x ∈ L, x ∈ F) (now : Nat) (hn : now ≤ 4611686018427387904) (hW : TW 1000000 T) (hd : dueT T now = true) :
    Calls Try.prog 19 #[ptr p, .int .i64 now] w fun e w' => ∃ u us C N B', e = .returned (.tuple #[.agg #[.int .i64 ((T.said - T.waits.length : Nat) : Int), u, .int .i64 T.heard], .bool true]) ∧
      Ow w' w0 (B' ++ (C ++ (N ++ F))) ∧ TkB w0 L p (tickT T now) B' ∧ Row 34 1 u T.waits.length us C ∧ ∀ w1, Msgs w1 N us T.waits := by
  have hw := hW.waits
  have hm := hW.most
  have hg := hW.gone
  have hle := hW.le
  have hsd := hW.said
  have hhd := hW.heard
  have DUE := Lib.hid (due_to p T B F L (w.alloc (.cells #[.int .i64 0, .slice none 0 0, .int .i64 0] 36)) w0 (O.alloc _) hT now hn hW.last hW.again (by omega) (by omega) true hd)
  obtain ⟨vw, ws, Bw, vg, gs, Bg, Rw, Mw, Rg, Mg, O', HB, -⟩ := hT.open_ O
  obtain ⟨ao, cap, rfl⟩ := Rw.slice
  have HO := Lib.hid (O'.key #[.int .i64 0, .slice none 0 0, .int .i64 0] 36 w.heap.size rfl)
  have HRW := Lib.hid Rw
  have HMW := Lib.hid Mw
  have HRG := Lib.hid Rg
  have HMG := Lib.hid Mg
  have HL := Lib.hid hL
  have HWL := Lib.hid hW.wlen
  clear O hT hW O' HB Rw Mw Rg Mg hL
  go_enter Try.func19, Try.ntmps19
  go_wp2_with fail
  refine DUE.out.mono ?_
  rintro e w1 ⟨rfl, hb1⟩
  have O1 := HO.out.of_below hb1
  have HB1 := O1.has (b := p) (List.mem_cons_of_mem _ (List.mem_cons_self ..))
  have lt1 := HB1.lt
  have c2 := HB1.cell 2
  have c3 := HB1.cell 3
  have c7 := HB1.cell 7
  have c8 := HB1.cell 8
  have c9 := HB1.cell 9
  have f3 := HB1.frozen 3
  have f7 := HB1.frozen 7
  have f8 := HB1.frozen 8
  have f9 := HB1.frozen 9
  simp only [tcs] at c2 c3 c7 c8 c9
  have HO1 := Lib.hid (O1.perm (L' := ⟨p, 84, tcs T (.slice ao T.waits.length cap) vg⟩ :: (⟨w.heap.size, 36, #[.int .i64 0, .slice none 0 0, .int .i64 0]⟩ :: (Bw ++ (Bg ++ F)))) (perm_cnt fun x => by simp only [cnt_append, cnt_cons, cnt_nil] <;> omega))
  clear hb1 DUE O1 HB1
  go_wp2
  refine wp_opq (fun W => Ow W w0 (⟨p, 84, tcs (tickT T now) (.slice ao T.waits.length cap) vg⟩ :: (⟨w.heap.size, 36, #[.int .i64 0, .slice none 0 0, .int .i64 0]⟩ :: (Bw ++ (Bg ++ F))))) ((((((HO1.out.set 3 _).set 7 _).set 8 _).set 9 _)).as (by simp [tcs, tickT])) ?_
  intro w2 O2
  have HB := O2.has (List.mem_cons_self ..)
  have c2 := HB.cell 2
  have c4 := HB.cell 4
  have c6 := HB.cell 6
  have hlt := HB.lt
  simp only [tcs, tickT] at c2 c4 c6
  have ML : MsgL w0 (Bw ++ L) (.slice ao T.waits.length cap) T.waits := HRW.out.msgl HMW.out
  have ML2 := ML.here O2 (by
    intro x hx
    rcases List.mem_append.1 hx with hx | hx
    · simp [hx]
    · simp [HL.out x hx])
  have HO2 := Lib.hid O2
  have T3 : Hid (∀ g d, Calls Try.prog 35 #[.slice ao T.waits.length cap] (plus w2 g d) fun e w' => ∃ u, e = .returned u ∧ Below (plus w2 g d).heap.size (plus w2 g d) w' ∧ CloL w2.heap.size T.waits u w') := fun g d => by
    refine (copied_any _ T.waits _ (by omega) (fun i => Nat.le_trans (getD_len HWL.out i) (by omega)) (ML2.here ((Ow.start w2).plus g d) sub_nil)).mono ?_
    rintro e w' ⟨u, h1, h2, h3⟩
    exact ⟨u, h1, h2, h3.base (by simp)⟩
  have hsub : (T.said : Int) - (T.waits.length : Int) = ((T.said - T.waits.length : Nat) : Int) := by omega
  clear O2 HB ML ML2
  refine wp_region_rc 23 3 (by kernel_rfl) (by kernel_rfl) (by kernel_rfl) (by kernel_rfl) ?_
  simp only [List.take_succ_cons, List.take_zero]
  repeat (first
    | (refine B_skip ?_ ?_; (· rfl); (try simp only [Act.put, List.setIfInBounds_toArray, List.set_cons_zero, List.set_cons_succ]))
    | (refine B_move rfl ?_ ?_; (· rfl); (try simp only [Act.eval, Act.put, Array.getD_eq_getD_getElem?, List.getElem?_toArray, List.getElem?_cons_succ, List.getElem?_cons_zero, Option.getD_some, List.setIfInBounds_toArray, List.set_cons_zero, List.set_cons_succ]))
    | (refine B_plain ?_ ?_; (· rfl); intro K hK; go_big_quiet_op; with_reducible refine hK _ ?_; clear hK K)
    | (refine B_callR (CloL w2.heap.size T.waits) (stays_cloL _ _) (f := 35) rfl rfl (by kernel_rfl) ?_ (fun xq => ?_) ?_; (· rfl); (· ((simp only [List.map_toArray, List.map_cons, List.map_nil, Act.eval, Array.getD_eq_getD_getElem?, List.getElem?_toArray, List.getElem?_cons_succ, List.getElem?_cons_zero, Option.getD_some]); (with_reducible apply retR); with_reducible exact T3.out _ _)))
    | (refine B_nilck rfl rfl ?_ ?_; (· rfl); (try simp only [Act.put, List.setIfInBounds_toArray, List.set_cons_zero, List.set_cons_succ])))
  refine B_nil ?_ rfl ?_ ?_
  · kernel_rfl
  · rfl
  rintro _ ⟨⟨g2, d2⟩, rfl⟩
  simp only [fin, Act.put, List.setIfInBounds_toArray, List.set_cons_zero, List.set_cons_succ]
  rintro u hu
  obtain ⟨us, C, N, O3, RC, MN⟩ := hu.found HO2.out ⟨⟨_, _⟩, rfl⟩
  obtain ⟨au, cu, rfl⟩ := RC.slice
  have HRC := Lib.hid RC
  have HMN := Lib.hid MN
  have HO3 := Lib.hid (O3.perm (L' := [] ++ (⟨w.heap.size, 36, #[.int .i64 0, .slice none 0 0, .int .i64 0]⟩ :: (⟨p, 84, tcs (tickT T now) (.slice ao T.waits.length cap) vg⟩ :: (Bw ++ (Bg ++ (C ++ (N ++ F))))))) (perm_cnt fun x => by simp only [cnt_append, cnt_cons, cnt_nil] <;> omega))
  clear hu RC MN O3 HO2 T3
  refine step_one (n := 2) (k := 23) (by kernel_rfl) (by rfl) (by rfl) ?_
  intro K hK
  go_simp
  refine hK _ _ ?_
  clear hK K
  refine step_one (n := 1) (k := 24) (by kernel_rfl) (by rfl) (by rfl) ?_
  intro K hK
  refine wp_store_blk 36 (.tmp 4) (.tmp 58) (by rfl) HO3.out.mem (by rfl) #[.int .i64 ((T.said - T.waits.length : Nat) : Int), .slice au T.waits.length cu, .int .i64 T.heard] (by rfl) (by kernel_rfl) (by rfl) (by simp [Value.oneCell']) (fun w' M' => hK _ _ ?_)
  clear hK K
  have O4 : Ow w' w0 (⟨w.heap.size, 36, #[.int .i64 ((T.said - T.waits.length : Nat) : Int), .slice au T.waits.length cu, .int .i64 T.heard]⟩ :: (⟨p, 84, tcs (tickT T now) (.slice ao T.waits.length cap) vg⟩ :: (Bw ++ (Bg ++ (C ++ (N ++ F)))))) := ⟨M', fun x hx => by
    rcases List.mem_cons.1 hx with rfl | hx
    · exact HO3.out.new ⟨w.heap.size, 36, #[.int .i64 0, .slice none 0 0, .int .i64 0]⟩ (by rw [List.nil_append]; exact List.mem_cons_self ..)
    · exact HO3.out.new x (by rw [List.nil_append]; exact List.mem_cons_of_mem _ hx)⟩
  have HB4 := O4.has (List.mem_cons_self ..)
  have d0 : w'.cell? ⟨w.heap.size, 0, none⟩ = some (.int .i64 ((T.said - T.waits.length : Nat) : Int)) := HB4.cell 0
  have d1 : w'.cell? ⟨w.heap.size, 1, none⟩ = some (.slice au T.waits.length cu) := HB4.cell 1
  have d2 : w'.cell? ⟨w.heap.size, 2, none⟩ = some (.int .i64 T.heard) := HB4.cell 2
  have HO4 := Lib.hid O4
  clear M' O4 HB4
  refine last_one (k := 25) (by kernel_rfl) (by kernel_rfl) (by rfl) ?_ ?_
  · rfl
  intro K hK
  go_simp
  refine hK _ _ ?_
  clear hK K
  go_wp2
  refine bodyPost_ret (v := .tuple #[.agg #[.int .i64 ((T.said - T.waits.length : Nat) : Int), .slice au T.waits.length cu, .int .i64 T.heard], .bool true]) (by simp [results, Try.results19, go_sem, d0, d1, d2]) rfl ?_
  exact ⟨_, us, C, N, ⟨p, 84, tcs (tickT T now) (.slice ao T.waits.length cap) vg⟩ :: (Bw ++ Bg), rfl, HO4.out.drop1.perm (perm_cnt fun x => by simp only [cnt_append, cnt_cons, cnt_nil] <;> omega), ⟨_, ws, Bw, vg, gs, Bg, rfl, HRW.out, HMW.out, HRG.out, HMG.out⟩, HRC.out, HMN.out⟩

end Go.Proofs.Ytgjodjkmefdilaa
