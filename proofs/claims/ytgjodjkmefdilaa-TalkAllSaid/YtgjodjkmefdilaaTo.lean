/- talk: contract of told. -/
import Derived.Test.YtgjodjkmefdilaaTz
import Derived.Lib.SlBytesConst
namespace Go.Proofs.Ytgjodjkmefdilaa
set_option linter.unusedSimpArgs false
set_option linter.unusedVariables false
open Go.RowKit

theorem run_const_a (W : World) (g : Nat) (hg : g = W.heap.size) : (convert 34 34 (.slice (some ⟨g, 0, none⟩) 1 1)).run Try.prog (W.alloc (.cells #[.int .u8 97] 5)) = .ok (.slice (some ⟨g, 0, none⟩) 1 1) (W.alloc (.cells #[.int .u8 97] 5 (1, 2))) := by
  subst hg; exact Lib.run_convert_bytes_const W 34 5 _ 1 1 Try.underlying34 Try.underlying5
theorem bsl_const_a (W : World) (g : Nat) (hg : g = W.heap.size) : BSl (W.alloc (.cells #[.int .u8 97] 5 (1, 2))) (.slice (some ⟨g, 0, none⟩) 1 1) [97] := by
  subst hg
  refine ⟨_, 1, rfl, ⟨Nat.le_refl _, fun h => by cases h⟩, .inr ⟨_, 0, rfl, by simp, fun i hi => ?_⟩⟩
  rw [World.cell?_alloc_mark, Nat.zero_add]
  match i, hi with
  | 0, _ => rfl
/-- A slice of one message, in a block that was just made. -/
theorem msgl_one {w : World} {v : Value} {m : List UInt8} {b : Nat} (hb : b < w.heap.size) (hc : w.cell? ⟨b, 0, none⟩ = some v) (hm : BSl w v m) : MsgL w [] (.slice (some ⟨b, 0, none⟩) 1 1) [m] := by
  refine ⟨[v], ⟨rfl, _, 1, rfl, ⟨Nat.le_refl _, fun h => by cases h⟩, .inr ⟨b, 0, rfl, .inl ⟨hb, fun j u hj => ?_⟩⟩⟩, rfl, fun i v' m' hv hm' => ?_⟩
  · match j, hj with
    | 0, hj => simp at hj; subst hj; exact hc
  · match i, hv, hm' with
    | 0, hv, hm' => simp at hv hm'; subst hv hm'; exact Msg.of_bsl hm

def tT0 : TS := newT 2 5
def tT1 : TS := sayT tT0 [97]
def tT2 : TS := tickT tT1 0
def tT3 : TS := tickT tT2 5
def tU1 : TS := hearT tT0 0 [[97]] 0
def tU2 : TS := gotT tU1
def tU3 : TS := tickT tU2 1

set_option maxRecDepth 100000 in
set_option maxHeartbeats 8000000 in
theorem told_to (w : World) : Calls Try.prog 12 #[] w fun e w' => e = .returned (.bool true) ∧ Below w.heap.size w w' := by
  have W0 : TW 1000000 tT0 := newT_ok 2 5 (by omega) (by omega) (by omega) _
  have W1 : TW 1000000 tT1 := (newT_ok 2 5 (by omega) (by omega) (by omega) 9).say [97] |>.mono (by omega)
  have W2 : TW 1000000 tT2 := W1.tick 0 (by omega)
  have W3 : TW 1000000 tT3 := W2.tick 5 (by omega)
  have V1 : TW 1000000 tU1 := ((newT_ok 2 5 (by omega) (by omega) (by omega) 9).afterHear 0 [[97]] 0 (by simp [newT]) (by simp) (by simp)).mono (by omega)
  have V2 : TW 1000000 tU2 := V1.gotten
  have HS := Lib.hid (Ow.start w)
  go_enter Try.func12, Try.ntmps12
  go_wp2_with fail
  refine (new_yes 2 5 _ w [] HS.out (by omega) (by omega) (by omega) (by omega)).mono ?_
  rintro e w1 ⟨p, A, rfl, O1, t1⟩
  go_wp2_with fail
  refine (new_yes 2 5 _ w (A ++ []) O1 (by omega) (by omega) (by omega) (by omega)).mono ?_
  rintro e w2 ⟨q, B, rfl, O2, u1⟩
  have H2 : Hid (S2 w2 w [] p tT0 q tT0) := ⟨B, ⟨A, O2.perm (perm_cnt fun x => by simp only [cnt_append, cnt_cons, cnt_nil] <;> omega), t1⟩, u1⟩
  have hcv := run_const_a w2 w2.heap.size rfl
  have hbs := Lib.hid (bsl_const_a w2 w2.heap.size rfl)
  clear O1 O2 t1 u1
  go_wp2_with fail
  obtain ⟨C, s, u⟩ := H2.out.alloc (.cells #[.int .u8 97] 5 (1, 2))
  refine (s.say _ [97] hbs.out W0 0 rfl tT1 rfl).mono ?_
  rintro e w3 ⟨rfl, X3, hs3, s3⟩
  have H3 : Hid (S2 w3 w X3 p tT1 q tT0) := ⟨C, s3, u.mono hs3⟩
  clear s u s3 hs3 hcv hbs H2
  -- the first packet
  go_wp2_with fail
  obtain ⟨C, s, u⟩ := H3.out
  refine (s.tickYes 0 (by omega) W1 rfl 0 0 rfl rfl [[97]] rfl tT2 rfl).mono ?_
  rintro e w4 ⟨v, X4, rfl, hs4, s4, m4⟩
  obtain ⟨av, cv, rfl⟩ := m4.slice
  have H4 : Hid (S2 (w4.alloc (.cells #[.int .i64 (0 : Nat), .slice av 1 cv, .int .i64 (0 : Nat)] 36)) w (⟨w4.heap.size, 36, #[.int .i64 (0 : Nat), .slice av 1 cv, .int .i64 (0 : Nat)]⟩ :: X4) p tT2 q tT0) := S2.key ⟨C, s4, u.mono hs4⟩ _ _ _ rfl
  have HM4 := Lib.hid m4
  clear s u s4 hs4 m4 H3
  -- too early
  go_wp2_with fail
  obtain ⟨C, s, u⟩ := H4.out
  refine (s.tickNo 4 (by omega) W2 rfl).mono ?_
  rintro e w5 ⟨rfl, s5⟩
  have H5 : Hid (S2 (w5.alloc (.cells #[.int .i64 0, .slice none 0 0, .int .i64 0] 36)) w (⟨w4.heap.size, 36, #[.int .i64 (0 : Nat), .slice av 1 cv, .int .i64 (0 : Nat)]⟩ :: X4) p tT2 q tT0) := S2.alloc ⟨C, s5, u⟩ _
  clear s u s5 H4
  go_wp2_with fail
  obtain ⟨C, s, u⟩ := H5.out
  refine (s.tickYes 5 (by omega) W2 rfl 0 0 rfl rfl [[97]] rfl tT3 rfl).mono ?_
  rintro e w6 ⟨v6, X6, rfl, hs6, s6, m6⟩
  obtain ⟨av6, cv6, rfl⟩ := m6.slice
  have HX6 : Hid (⟨w4.heap.size, 36, #[.int .i64 (0 : Nat), .slice av 1 cv, .int .i64 (0 : Nat)]⟩ ∈ X6) := hs6 _ (List.mem_cons_self ..)
  have H6 : Hid (S2 (w6.alloc (.cells #[.int .i64 (0 : Nat), .slice av6 1 cv6, .int .i64 (0 : Nat)] 36)) w X6 p tT3 q tT0) := S2.alloc ⟨C, s6, u.mono hs6⟩ _
  have HM6 := Lib.hid (HM4.out.mono (L' := X6) fun x hx => hs6 x (List.mem_cons_of_mem _ hx))
  have HBk := (show S2 w6 w X6 p tT3 q tT0 from ⟨C, s6, u.mono hs6⟩).has HX6.out
  have d0 := HBk.cell 0
  have d1 := HBk.cell 1
  have d2 := HBk.cell 2
  have ltk := HBk.lt
  clear s u s6 hs6 m6 H5 HM4 HBk
  -- heard, and got
  go_wp2_with fail
  obtain ⟨C, s, u⟩ := H6.out.swap
  refine (s.hearYes 0 0 _ [[97]] HM6.out (by omega) W0 (by rfl) tU1 rfl 0 rfl).mono ?_
  rintro e w7 ⟨rfl, X7, hs7, s7⟩
  have H7 : Hid (S2 w7 w X7 p tT3 q tU1) := S2.swap ⟨C, s7, u.mono hs7⟩
  clear s u s7 hs7 d0 d1 d2 ltk H6 HM6 HX6
  go_wp2_with fail
  obtain ⟨C, s, u⟩ := H7.out.swap
  refine (s.got tU2 rfl [[97]] rfl).mono ?_
  rintro e w8 ⟨v8, X8, rfl, hs8, s8, m8⟩
  obtain ⟨a8, c8, rfl⟩ := m8.slice
  have H8 : Hid (S2 w8 w X8 p tT3 q tU2) := S2.swap ⟨C, s8, u.mono hs8⟩
  have hcv := run_const_a w8 w8.heap.size rfl
  have hml : Hid (MsgL ((w8.alloc (.cells #[.int .u8 97] 5 (1, 2))).alloc (.cells #[.slice (some ⟨w8.heap.size, 0, none⟩) 1 1] 34)) [] (.slice (some ⟨w8.heap.size + 1, 0, none⟩) 1 1) [[97]]) :=
    msgl_one (by simp) (by rw [World.cell?_alloc_at _ _ _ _ (by simp)]; rfl) ((bsl_const_a w8 w8.heap.size rfl).alloc _)
  have hmr : Hid (MsgL ((w8.alloc (.cells #[.int .u8 97] 5 (1, 2))).alloc (.cells #[.slice (some ⟨w8.heap.size, 0, none⟩) 1 1] 34)) [] (.slice a8 1 c8) [[97]]) := ((H8.out.alloc _).alloc _).here m8
  clear s u s8 hs8 m8 H7
  go_wp2_with fail
  refine (same_to _ _ [[97]] [[97]] _ (by simp) (by simp) hmr.out hml.out true (by rfl)).mono ?_
  rintro e w9 ⟨rfl, O9⟩
  have H9 : Hid (S2 w9 w X8 p tT3 q tU2) := ((H8.out.alloc _).alloc _).of_below O9.below
  clear O9 hcv hml hmr H8
  go_wp2_with fail
  obtain ⟨C, s, u⟩ := H9.out
  refine (s.idle false (by rfl)).mono ?_
  rintro e w10 ⟨rfl, rfl⟩
  clear s u
  -- what is told back
  go_wp2_with fail
  obtain ⟨C, s, u⟩ := H9.out.swap
  refine (s.tickYes 1 (by omega) V2 rfl 0 1 rfl rfl [] rfl tU3 rfl).mono ?_
  rintro e w11 ⟨v11, X11, rfl, hs11, s11, m11⟩
  obtain ⟨av11, cv11, rfl⟩ := m11.slice
  have H11 : Hid (S2 (w11.alloc (.cells #[.int .i64 (0 : Nat), .slice av11 0 cv11, .int .i64 (1 : Nat)] 36)) w X11 p tT3 q tU3) := S2.alloc (S2.swap ⟨C, s11, u.mono hs11⟩) _
  have HM11 := Lib.hid m11
  clear s u s11 hs11 m11 H9
  go_wp2_with fail
  obtain ⟨C, s, u⟩ := H11.out
  refine (s.hearYes 0 1 _ [] HM11.out (by omega) W3 (by rfl) (hearT tT3 0 [] 1) rfl 0 rfl).mono ?_
  rintro e w12 ⟨rfl, X12, hs12, s12⟩
  have H12 : Hid (S2 w12 w X12 p (hearT tT3 0 [] 1) q tU3) := ⟨C, s12, u.mono hs12⟩
  clear s u s12 hs12 H11
  go_wp2_with fail
  obtain ⟨C, s, u⟩ := H12.out
  refine (s.idle true (by rfl)).mono ?_
  rintro e w13 ⟨rfl, rfl⟩
  clear s u
  go_wp2
  go_ret
  exact ⟨rfl, H12.out.below⟩

end Go.Proofs.Ytgjodjkmefdilaa
