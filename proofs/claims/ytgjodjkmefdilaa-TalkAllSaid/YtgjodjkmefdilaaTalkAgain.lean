/- The law TalkAgain: its walk. -/
import Derived.Test.YtgjodjkmefdilaaTo
import Derived.Test.YtgjodjkmefdilaaTk
import Derived.Laws.StructEq
namespace Go.Proofs.Ytgjodjkmefdilaa
set_option linter.unusedSimpArgs false
set_option linter.unusedVariables false
open Go.RowKit

theorem S1.key {w w0 : World} {C X : List Blk} {p : Nat} {T : TS} (h : S1 w w0 C X p T) (cs : Array Value) (t : TypeId) (b : Nat) (hb : b = w.heap.size) : S1 (w.alloc (.cells cs t)) w0 C (⟨b, t, cs⟩ :: X) p T := by
  obtain ⟨A, O, t1⟩ := h
  exact ⟨A, (O.key cs t b hb).perm (perm_cnt fun x => by simp only [cnt_append, cnt_cons, cnt_nil] <;> omega), t1.mono fun x hx => by simp [hx]⟩
theorem S1.has {w w0 : World} {C X : List Blk} {p : Nat} {T : TS} (h : S1 w w0 C X p T) {b : Nat} {t : TypeId} {cs : Array Value} (hx : (⟨b, t, cs⟩ : Blk) ∈ X) : HasBlk w b t cs := by
  obtain ⟨A, O, t1⟩ := h
  exact O.has (by simp [hx])
/-- The Talker of TalkAgain, behind ticks. -/
def agT (T : TS) (last : Nat) (went : Bool) : TS := if went then tickT T last else T
theorem agT_due {T : TS} (h1 : T.waits.length = 1) (h2 : T.gone = 0) (h3 : T.owes = false) (last now : Nat) (went : Bool) : dueT (agT T last went) now = (!went || decide (last + T.again ≤ now)) := by
  cases went with
  | false => simp [agT, dueT, h1, h2, h3]
  | true => simp [agT, dueT, tickT, h1]
theorem agT_tick (T : TS) (last now : Nat) (went : Bool) : tickT (agT T last went) now = agT T now true := by
  cases went <;> simp [agT, tickT]
theorem VSl.at_ {w0 w : World} {X : List Blk} {ao : Option Addr} {n cap : Nat} {f : Nat → Value} (h : VSl w0 (.slice ao n cap) n f) (O : Ow w w0 X) (k : Nat) (hk : k < n) : ∃ r o, ao = some ⟨r, o, none⟩ ∧ r < w.heap.size ∧ w.cell? ⟨r, o + k, none⟩ = some (f k) := by
  obtain ⟨ao', cap', e, _, h3⟩ := h
  cases e
  rcases h3 with h3 | ⟨r, o, h3, h4, h5⟩
  · omega
  · exact ⟨r, o, h3, Nat.lt_of_lt_of_le h4 O.mem.size, by rw [O.old h4]; exact h5 k hk⟩

set_option maxRecDepth 100000 in
set_option maxHeartbeats 8000000 in
theorem talkAgain_any (x y : Int) (v1 v2 : Value) (l : List UInt8) (n : Nat) (f : Nat → Int) (w : World) (hv1 : BSl w v1 l) (hl : l.length ≤ 9223372036854775807) (hn : n ≤ 9223372036854775807) (hv2 : VSl w v2 n (fun i => .int .i64 (f i))) :
    Calls Try.prog 6 #[.agg #[.int .i64 x, .int .i64 y], v1, v2] w fun e w' => e = .returned (.bool true) ∧ Below w.heap.size w w' := by
  obtain ⟨ao, cap, rfl, hcap, hnil⟩ := hv1.open_
  obtain ⟨ao2, cap2, rfl⟩ : ∃ ao2 cap2, v2 = .slice ao2 n cap2 := by obtain ⟨a, c, e, _⟩ := hv2; exact ⟨a, c, e⟩
  obtain ⟨m, HMm⟩ : ∃ m, Hid (l.take 4096 = m) := ⟨_, rfl⟩
  have hml : min l.length 4096 = m.length := by rw [← HMm.out]; simp; omega
  have hm4 : m.length ≤ 4096 := by omega
  have hmi : min (l.length : Int) 4096 = (m.length : Int) := by omega
  have hmc : m.length ≤ cap := by omega
  have HVm : Hid (BSl w (.slice ao m.length cap) m) := by
    have := bsl_take hv1 m.length (by omega)
    have e : l.take m.length = m := by rw [← HMm.out]; simp
    rwa [e] at this
  have HV2 := Lib.hid hv2
  obtain ⟨a, HA⟩ : ∃ a, Hid (1 + cutN x 64 = a) := ⟨_, rfl⟩
  obtain ⟨b, HB⟩ : ∃ b, Hid (1 + cutN y 1000 = b) := ⟨_, rfl⟩
  have ha1 : 1 ≤ a := by rw [← HA.out]; omega
  have ha2 : a ≤ 64 := by rw [← HA.out]; have : cutN x 64 < 64 := Nat.mod_lt _ (by omega); omega
  have hb1 : 1 ≤ b := by rw [← HB.out]; omega
  have hb2 : b ≤ 1000 := by rw [← HB.out]; have : cutN y 1000 < 1000 := Nat.mod_lt _ (by omega); omega
  have W0 : TW 1000000 (newT a b) := newT_ok a b ha1 ha2 hb2 _
  obtain ⟨T1, HT1⟩ : ∃ T1, Hid (sayT (newT a b) m = T1) := ⟨_, rfl⟩
  have hT1 : T1 = { newT a b with waits := [m], said := 1 } := by
    rw [← HT1.out]; unfold sayT; rw [if_neg (by omega), if_neg (by simp [newT]; omega)]; simp [newT]
  have W1 : TW 1000000 T1 := by rw [← HT1.out]; exact ((newT_ok a b ha1 ha2 hb2 9).say m).mono (by omega)
  have hsay : sayE (newT a b) m = 0 := by unfold sayE; rw [if_neg (by omega), if_neg (by simp [newT]; omega)]
  have hTw : T1.waits = [m] := by rw [hT1]
  have hTg : T1.gone = 0 := by rw [hT1]; rfl
  have hTo : T1.owes = false := by rw [hT1]; rfl
  have hTs : T1.said = 1 := by rw [hT1]
  have hTh : T1.heard = 0 := by rw [hT1]; rfl
  have hTa : T1.again = b := by rw [hT1]; rfl
  have HS := Lib.hid ((Ow.start w).alloc (.cells #[.int .i64 x, .int .i64 y] 22))
  clear hv1 hv2 hT1
  go_enter Try.func6, Try.ntmps6
  go_wp2_with fail
  refine (begin_to x y _ w [] HS.out a b HA.out HB.out).mono ?_
  rintro e w1 ⟨p, A, rfl, O1, t1⟩
  have H1 : Hid (S1 (w1.alloc (.cells #[.int .i64 a, .int .i64 b, .slice none 0 0, .int .i64 0, .int .i64 0, .slice none 0 0, .int .i64 0, .int .i64 0, .bool false, .bool false] 27)) w [] [⟨w1.heap.size, 27, #[.int .i64 a, .int .i64 b, .slice none 0 0, .int .i64 0, .int .i64 0, .slice none 0 0, .int .i64 0, .int .i64 0, .bool false, .bool false]⟩] p (newT a b)) := S1.key ⟨A, O1, t1⟩ _ _ _ rfl
  clear O1 t1
  go_wp2_with fail
  refine (told_to _).mono ?_
  rintro e w2 ⟨rfl, hb2'⟩
  have H2 := Lib.hid (H1.out.of_below hb2')
  have HV2m : Hid (BSl w2 (.slice ao m.length cap) m) := by
    obtain ⟨A, O, t1⟩ := H2.out
    exact HVm.out.below O.below
  clear hb2' H1
  go_wp2_with fail
  refine (H2.out.say _ m HV2m.out W0 0 hsay T1 HT1.out).mono ?_
  rintro e w3 ⟨rfl, X3, hs3, s3⟩
  have H3 := Lib.hid s3
  have HX3 : Hid (⟨w1.heap.size, 27, #[.int .i64 a, .int .i64 b, .slice none 0 0, .int .i64 0, .int .i64 0, .slice none 0 0, .int .i64 0, .int .i64 0, .bool false, .bool false]⟩ ∈ X3) := hs3 _ (List.mem_cons_self ..)
  clear s3 hs3 H2 HV2m
  go_wp2_with fail
  go_loopw [9, 10, 11, 12] (fun vn vl vw vi wr => ∃ (k now last : Nat) (went : Bool) (X : List Blk), vi = .int .i64 k ∧ vn = .int .i64 now ∧ vl = .int .i64 last ∧ vw = .bool went ∧ k ≤ 60 ∧ k ≤ n ∧ now ≤ 700 * k ∧ last ≤ now ∧ ⟨w1.heap.size, 27, #[.int .i64 a, .int .i64 b, .slice none 0 0, .int .i64 0, .int .i64 0, .slice none 0 0, .int .i64 0, .int .i64 0, .bool false, .bool false]⟩ ∈ X ∧ S1 wr w [] X p (agT T1 last went)) (fun _ _ _ i _ => 60 - (intOf i).toNat)
  case atStart => exact ⟨0, 0, 0, false, X3, rfl, rfl, rfl, rfl, by omega, by omega, by omega, by omega, HX3.out, H3.out⟩
  case round =>
    obtain ⟨k, now, last, went, X, rfl, rfl, rfl, rfl, hk, hkn, hnow, hlast, hX, s⟩ := hrel
    have Hs := Lib.hid s
    have HX := Lib.hid hX
    clear s hX
    by_cases hlt : k < n ∧ k < 60
    · obtain ⟨Y, O, hY⟩ := Hs.out.ow
      obtain ⟨r, o, rfl, hr, hc⟩ := HV2.out.at_ O k hlt.1
      have hlt1 := hlt.1
      have hlt2 := hlt.2
      have HBk := Hs.out.has HX.out
      have k1 := HBk.cell 1
      have ltk := HBk.lt
      have ez := cut_eq (f k) 700 (by omega) (by omega)
      have hz : cutN (f k) 700 < 700 := Nat.mod_lt _ (by omega)
      generalize cutN (f k) 700 = z at *
      have ez' : wrap64 ((IntKind.u64.wrap (f k)).tmod 700) = (z : Int) := ez
      obtain ⟨now1, hn1⟩ : ∃ now1 : Nat, now + z = now1 := ⟨_, rfl⟩
      have hn2 : (now : Int) + (z : Int) = (now1 : Int) := by omega
      clear ez O hlt HBk
      have WT : TW 1000000 (agT T1 last went) := by
        unfold agT
        split
        · exact W1.tick last (by omega)
        · exact W1
      obtain ⟨due, HD⟩ : ∃ due, Hid ((!went || decide (last + b ≤ now1)) = due) := ⟨_, rfl⟩
      have hdue : dueT (agT T1 last went) now1 = due := by rw [agT_due (by rw [hTw]; rfl) hTg hTo, hTa]; exact HD.out
      have hHW := Lib.hid WT
      have hHD := Lib.hid hdue
      clear WT hdue
      cases due with
      | true =>
        go_wp2_with fail
        refine (Hs.out.tickYes now1 (by omega) hHW.out hHD.out 0 0 (by unfold agT; split <;> simp [tickT, hTw, hTs]) (by unfold agT; split <;> simp [tickT, hTh]) [m] (by unfold agT; split <;> simp [tickT, hTw]) (agT T1 now1 true) (agT_tick _ _ _ _)).mono ?_
        rintro e w4 ⟨u, X4, rfl, hs4, s4, m4⟩
        obtain ⟨au, cu, rfl⟩ := m4.slice
        have hX4 : ⟨w1.heap.size, 27, #[.int .i64 a, .int .i64 b, .slice none 0 0, .int .i64 0, .int .i64 0, .slice none 0 0, .int .i64 0, .int .i64 0, .bool false, .bool false]⟩ ∈ X4 := hs4 _ HX.out
        have HS4 := Lib.hid s4
        have HX4 := Lib.hid hX4
        have hmr : Hid (MsgL ((w4.alloc (.cells #[.int .i64 (0 : Nat), .slice au 1 cu, .int .i64 (0 : Nat)] 36)).alloc (.cells #[.slice ao m.length cap] 34)) [] (.slice au 1 cu) [m]) := ((s4.alloc _).alloc _).here m4
        have hml : Hid (MsgL ((w4.alloc (.cells #[.int .i64 (0 : Nat), .slice au 1 cu, .int .i64 (0 : Nat)] 36)).alloc (.cells #[.slice ao m.length cap] 34)) [] (.slice (some ⟨w4.heap.size + 1, 0, none⟩) 1 1) [m]) :=
          msgl_one (by simp) (by rw [World.cell?_alloc_at _ _ _ _ (by simp)]; rfl) (HVm.out.below ((s4.alloc _).alloc _).below)
        have c4 := (s4.has hX4).cell 1
        have lt4 := (s4.has hX4).lt
        have hbb : Hid (∀ w5, Below ((w4.alloc (.cells #[.int .i64 (0 : Nat), .slice au 1 cu, .int .i64 (0 : Nat)] 36)).alloc (.cells #[.slice ao m.length cap] 34)).heap.size ((w4.alloc (.cells #[.int .i64 (0 : Nat), .slice au 1 cu, .int .i64 (0 : Nat)] 36)).alloc (.cells #[.slice ao m.length cap] 34)) w5 → S1 w5 w [] X4 p (agT T1 now1 true)) := fun w5 hb => ((s4.alloc _).alloc _).of_below hb
        clear hX4 s4 m4 hs4 k1 hc
        cases went with
        | false =>
          go_wp2_with fail
          refine (same_to _ _ [m] [m] _ (by simp) (by simp) hmr.out hml.out true (by simp)).mono ?_
          rintro e w5 ⟨rfl, O5⟩
          have HS5 := Lib.hid (hbb.out w5 O5.below)
          clear O5
          go_wp2
          exact ⟨⟨k + 1, now1, now1, true, X4, by simp, rfl, rfl, rfl, by omega, by omega, by omega, by omega, HX4.out, HS5.out⟩, by simp [intOf]; omega⟩
        | true =>
          have hd3 : decide ((b : Int) ≤ (now1 : Int) - (last : Int)) = true := by
            have := HD.out
            simp at this ⊢
            omega
          go_wp2_with fail
          refine (same_to _ _ [m] [m] _ (by simp) (by simp) hmr.out hml.out true (by simp)).mono ?_
          rintro e w5 ⟨rfl, O5⟩
          have HS5 := Lib.hid (hbb.out w5 O5.below)
          clear O5
          go_wp2
          exact ⟨⟨k + 1, now1, now1, true, X4, by simp, rfl, rfl, rfl, by omega, by omega, by omega, by omega, HX4.out, HS5.out⟩, by simp [intOf]; omega⟩
      | false =>
        go_wp2_with fail
        refine (Hs.out.tickNo now1 (by omega) hHW.out hHD.out).mono ?_
        rintro e w4 ⟨rfl, s4⟩
        have c4 := (s4.has HX.out).cell 1
        have lt4 := (s4.has HX.out).lt
        have HS4 := Lib.hid s4
        clear s4 k1 hc
        cases went with
        | false =>
          have := HD.out
          simp at this
        | true =>
          have hd3 : decide ((b : Int) ≤ (now1 : Int) - (last : Int)) = false := by
            have := HD.out
            simp at this ⊢
            omega
          go_wp2
          exact ⟨⟨k + 1, now1, last, true, X, by simp, rfl, rfl, rfl, by omega, by omega, by omega, by omega, HX.out, HS4.out.alloc _⟩, by simp [intOf]; omega⟩
    · have hnk : ¬ (k < n) ∨ ¬ (k < 60) := by omega
      obtain ⟨cnd, hcnd⟩ : ∃ c : Bool, decide ((k : Int) < (n : Int)) = c := ⟨_, rfl⟩
      have hidl : ((agT T1 last went).waits.length == 0) = false := by
        unfold agT; split <;> simp [tickT, hTw]
      cases cnd with
      | true =>
        have hk6 : decide ((k : Int) < 60) = false := by simp at hcnd ⊢; omega
        have idl := Hs.out.idle false hidl
        go_wp2_with fail
        all_goals (refine idl.mono ?_; rintro e w4 ⟨rfl, rfl⟩; go_wp2; go_ret; exact ⟨rfl, Hs.out.below⟩)
      | false =>
        have idl := Hs.out.idle false hidl
        go_wp2_with fail
        all_goals (refine idl.mono ?_; rintro e w4 ⟨rfl, rfl⟩; go_wp2; go_ret; exact ⟨rfl, Hs.out.below⟩)

theorem bounds_eq (a b c d : Nat) (w : World) (r : Bool) (hr : (decide (a = c ∧ b = d)) = r) : (Op.equalIn 10000 80 (.agg #[.int .i64 a, .int .i64 b]) (.agg #[.int .i64 c, .int .i64 d])).run Try.prog w = .ok r w := by
  have hf : (Try.prog.fieldsOf 80).toList = [{ name := "most", type := 3, offset := 0, embedded := false, tag := "", pkgPath := "baize/talk", byteOffset := 0 }, { name := "again", type := 3, offset := 1, embedded := false, tag := "", pkgPath := "baize/talk", byteOffset := 8 }] := by kernel_rfl
  rw [run_equalIn_struct w 9999 80 _ _ (by kernel_rfl) (by kernel_rfl), hf]
  have p0 : ∀ (x y : Nat) w, (part 3 #[.int .i64 x, .int .i64 y] 0).run Try.prog w = .ok (.int .i64 x) w := fun x y w => by
    simp [part, Sem.run_bind, Result.andThen]
  have p1 : ∀ (x y : Nat) w, (part 3 #[.int .i64 x, .int .i64 y] 1).run Try.prog w = .ok (.int .i64 y) w := fun x y w => by
    simp [part, Sem.run_bind, Result.andThen]
  have hi : ∀ (x y : Nat) w, (Op.equalIn 9999 3 (.int .i64 x) (.int .i64 y)).run Try.prog w = .ok ((x : Int) == (y : Int)) w := fun x y w => run_equalIn_int w 9998 3 .i64 .i64 x y Try.underlying3
  by_cases h1 : a = c
  · have e1 : ((a : Int) == (c : Int)) = true := by simp [h1]
    by_cases h2 : b = d
    · have e2 : ((b : Int) == (d : Int)) = true := by simp [h2]
      simp [Op.eqFields, Sem.run_bind, p0, p1, hi, e1, e2, Result.andThen, ← hr, h1, h2]
    · have e2 : ((b : Int) == (d : Int)) = false := by simp; omega
      simp [Op.eqFields, Sem.run_bind, p0, p1, hi, e1, e2, Result.andThen, ← hr, h1, h2]
  · have e1 : ((a : Int) == (c : Int)) = false := by simp; omega
    simp [Op.eqFields, Sem.run_bind, p0, p1, hi, e1, Result.andThen, ← hr, h1]

end Go.Proofs.Ytgjodjkmefdilaa
