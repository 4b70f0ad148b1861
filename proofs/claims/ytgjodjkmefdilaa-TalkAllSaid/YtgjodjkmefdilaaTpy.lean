/- talk: the contract of the law's play. -/
import Derived.Test.YtgjodjkmefdilaaTpc
import Derived.Deep.CutRange
import Derived.Deep.CutBlock
import Derived.Deep.DeepCutAuto
namespace Go.Proofs.Ytgjodjkmefdilaa
set_option linter.unusedSimpArgs false
set_option linter.unusedVariables false
open Go.RowKit

/-- What lies there: two Talkers, how many each said, what each got, what is under way. -/
def PS (w0 : World) (E : List Blk) (p q b12 b13 : Nat) (T U : TS) (s0 s1 : Nat) (gv0 gv1 wv : Value) (g0 g1 : List (List UInt8)) (pk : List PkV) (wr : World) : Prop :=
  ∃ X Bw B0 B1 us0 us1, S2C wr w0 (⟨b12, 22, #[.int .i64 s0, .int .i64 s1]⟩ :: (⟨b13, 41, #[gv0, gv1]⟩ :: (E ++ (Bw ++ (B0 ++ B1))))) X p T q U ∧ Row 89 4 wv pk.length (wayc pk) Bw ∧ (∀ k ∈ pk, MsgL w0 X k.v k.ms) ∧ Row 34 1 gv0 g0.length us0 B0 ∧ Msgs w0 X us0 g0 ∧ Row 34 1 gv1 g1.length us1 B1 ∧ Msgs w0 X us1 g1
/-- What holds of them, behind n deeds. -/
structure PI (T U : TS) (s0 s1 : Nat) (g0 g1 : List (List UInt8)) (pk : List PkV) (n : Nat) : Prop where
  ab : Dir 0 T U s0 g1
  ba : Dir 1 U T s1 g0
  pks : ∀ k ∈ pk, (k.other = true → Pk 0 T U s0 k.fi k.ms k.he) ∧ (k.other = false → Pk 1 U T s1 k.fi k.ms k.he)
  tT : TW (64 * n) T
  tU : TW (64 * n) U
  fT : Fit T n
  fU : Fit U n
  way : pk.length ≤ n
  n0 : s0 ≤ n
  n1 : s1 ≤ n
section
variable {T U : TS} {s0 s1 : Nat} {g0 g1 : List (List UInt8)} {pk : List PkV} {n : Nat}
theorem pks_of {T' U' : TS} {s0' s1' : Nat} (h : ∀ k ∈ pk, (k.other = true → Pk 0 T U s0 k.fi k.ms k.he) ∧ (k.other = false → Pk 1 U T s1 k.fi k.ms k.he)) (h1 : T.heard ≤ T'.heard) (h2 : U.heard ≤ U'.heard) (h3 : s0 ≤ s0') (h4 : s1 ≤ s1') :
    ∀ k ∈ pk, (k.other = true → Pk 0 T' U' s0' k.fi k.ms k.he) ∧ (k.other = false → Pk 1 U' T' s1' k.fi k.ms k.he) :=
  fun k hk => ⟨fun ho => ((h k hk).1 ho).mono h3 h2 h1, fun ho => ((h k hk).2 ho).mono h4 h1 h2⟩
theorem PI.more (h : PI T U s0 s1 g0 g1 pk n) : PI T U s0 s1 g0 g1 pk (n + 1) :=
  ⟨h.ab, h.ba, h.pks, h.tT.mono (by omega), h.tU.mono (by omega), h.fT.mono (by omega), h.fU.mono (by omega), by have := h.way; omega, by have := h.n0; omega, by have := h.n1; omega⟩
theorem fit_say {T : TS} {b : Nat} (h : Fit T b) (m : List UInt8) : Fit (sayT T m) b := by
  unfold sayT
  split
  · exact h
  · split
    · exact h
    · exact ⟨h.gone, h.last, h.again⟩
theorem PI.say0 (h : PI T U s0 s1 g0 g1 pk n) (hs : sayE T (wdL 0 s0) = 0) : PI (sayT T (wdL 0 s0)) U (s0 + 1) s1 g0 g1 pk (n + 1) := by
  have hk := say_keeps T (wdL 0 s0)
  have h0 := h.n0; have h1 := h.n1; have h2 := h.way
  refine ⟨h.ab.say hs, h.ba.hearer hk.1 hk.2, fun k hk' => ⟨fun ho => ((h.pks k hk').1 ho).mono (by omega) (Nat.le_refl _) (by rw [hk.1]; exact Nat.le_refl _), fun ho => ((h.pks k hk').2 ho).mono (Nat.le_refl _) (by rw [hk.1]; exact Nat.le_refl _) (Nat.le_refl _)⟩, (h.tT.say _).mono (by omega), h.tU.mono (by omega), (fit_say h.fT _).mono (by omega), h.fU.mono (by omega), by omega, by omega, by omega⟩
theorem PI.say1 (h : PI T U s0 s1 g0 g1 pk n) (hs : sayE U (wdL 1 s1) = 0) : PI T (sayT U (wdL 1 s1)) s0 (s1 + 1) g0 g1 pk (n + 1) := by
  have hk := say_keeps U (wdL 1 s1)
  have h0 := h.n0; have h1 := h.n1; have h2 := h.way
  refine ⟨h.ab.hearer hk.1 hk.2, h.ba.say hs, fun k hk' => ⟨fun ho => ((h.pks k hk').1 ho).mono (Nat.le_refl _) (by rw [hk.1]; exact Nat.le_refl _) (Nat.le_refl _), fun ho => ((h.pks k hk').2 ho).mono (by omega) (Nat.le_refl _) (by rw [hk.1]; exact Nat.le_refl _)⟩, h.tT.mono (by omega), (h.tU.say _).mono (by omega), h.fT.mono (by omega), (fit_say h.fU _).mono (by omega), by omega, by omega, by omega⟩
theorem TW.w64 {b : Nat} (h : TW b T) : T.waits.length ≤ 64 := Nat.le_trans h.waits h.most
theorem PI.tick0 (h : PI T U s0 s1 g0 g1 pk n) (hn : n ≤ 4611686018427387904) (v : Value) : PI (tickT T n) U s0 s1 g0 g1 (pk ++ [⟨T.said - T.waits.length, T.waits, T.heard, v, true⟩]) (n + 1) := by
  have h0 := h.n0; have h1 := h.n1; have h2 := h.way
  refine ⟨h.ab.sender rfl rfl, h.ba.hearer rfl rfl, fun k hk => ?_, (h.tT.tick n hn).mono (by omega), h.tU.mono (by omega), ⟨fun _ => rfl, by show n ≤ n + 1; omega, h.fT.again⟩, h.fU.mono (by omega), by simp; omega, by omega, by omega⟩
  rcases List.mem_append.1 hk with hk | hk
  · exact pks_of (T' := tickT T n) (U' := U) h.pks (Nat.le_refl _) (Nat.le_refl _) (Nat.le_refl _) (Nat.le_refl _) k hk
  · obtain rfl := List.mem_singleton.1 hk
    exact ⟨fun _ => (h.ab.send h.tT.w64).mono (T' := tickT T n) (U' := U) (Nat.le_refl _) (Nat.le_refl _) (Nat.le_refl _), fun ho => by cases ho⟩
theorem PI.tick1 (h : PI T U s0 s1 g0 g1 pk n) (hn : n ≤ 4611686018427387904) (v : Value) : PI T (tickT U n) s0 s1 g0 g1 (pk ++ [⟨U.said - U.waits.length, U.waits, U.heard, v, false⟩]) (n + 1) := by
  have h0 := h.n0; have h1 := h.n1; have h2 := h.way
  refine ⟨h.ab.hearer rfl rfl, h.ba.sender rfl rfl, fun k hk => ?_, h.tT.mono (by omega), (h.tU.tick n hn).mono (by omega), h.fT.mono (by omega), ⟨fun _ => rfl, by show n ≤ n + 1; omega, h.fU.again⟩, by simp; omega, by omega, by omega⟩
  rcases List.mem_append.1 hk with hk | hk
  · exact pks_of (T' := T) (U' := tickT U n) h.pks (Nat.le_refl _) (Nat.le_refl _) (Nat.le_refl _) (Nat.le_refl _) k hk
  · obtain rfl := List.mem_singleton.1 hk
    exact ⟨fun ho => by (cases ho), fun _ => (h.ba.send h.tU.w64).mono (T' := tickT U n) (U' := T) (Nat.le_refl _) (Nat.le_refl _) (Nat.le_refl _)⟩
theorem fit_hear {U U' : TS} {b fi he : Nat} {ms : List (List UInt8)} (h : Fit U b) (k : Heard U fi ms he U') : Fit U' b :=
  ⟨fun hg => by rw [k.went]; exact h.gone (Nat.lt_of_lt_of_le hg k.gone), by rw [k.last]; exact h.last, by rw [k.again]; exact h.again⟩
theorem PI.hear1 (h : PI T U s0 s1 g0 g1 pk n) (k : PkV) (hk : k ∈ pk) (ho : k.other = true) : PI T (hearT U k.fi k.ms k.he) s0 s1 g0 g1 pk (n + 1) ∧ rightT U k.fi k.ms k.he = true := by
  have h0 := h.n0; have h1 := h.n1; have h2 := h.way
  have kk := (h.pks k hk).1 ho
  have hh := heard_of U k.fi k.ms k.he kk.fi
  have hu : U.heard ≤ (hearT U k.fi k.ms k.he).heard := by rw [hh.heard]; omega
  refine ⟨⟨h.ab.hear kk hh, h.ba.heardOf kk hh, fun j hj => ⟨fun ho => ((h.pks j hj).1 ho).mono (Nat.le_refl _) hu (Nat.le_refl _), fun ho => ((h.pks j hj).2 ho).mono (Nat.le_refl _) (Nat.le_refl _) hu⟩, h.tT.mono (by omega), (h.tU.afterHear k.fi k.ms k.he ?_ kk.len kk.small).mono (by omega), h.fT.mono (by omega), (fit_hear h.fU hh).mono (by omega), by omega, by omega, by omega⟩, kk.right h.ba⟩
  have := kk.he; have := h.ba.hle; have := h.ba.said; omega
theorem PI.hear0 (h : PI T U s0 s1 g0 g1 pk n) (k : PkV) (hk : k ∈ pk) (ho : k.other = false) : PI (hearT T k.fi k.ms k.he) U s0 s1 g0 g1 pk (n + 1) ∧ rightT T k.fi k.ms k.he = true := by
  have h0 := h.n0; have h1 := h.n1; have h2 := h.way
  have kk := (h.pks k hk).2 ho
  have hh := heard_of T k.fi k.ms k.he kk.fi
  have hu : T.heard ≤ (hearT T k.fi k.ms k.he).heard := by rw [hh.heard]; omega
  refine ⟨⟨h.ab.heardOf kk hh, h.ba.hear kk hh, fun j hj => ⟨fun ho => ((h.pks j hj).1 ho).mono (Nat.le_refl _) (Nat.le_refl _) hu, fun ho => ((h.pks j hj).2 ho).mono (Nat.le_refl _) hu (Nat.le_refl _)⟩, (h.tT.afterHear k.fi k.ms k.he ?_ kk.len kk.small).mono (by omega), h.tU.mono (by omega), (fit_hear h.fT hh).mono (by omega), h.fU.mono (by omega), by omega, by omega, by omega⟩, kk.right h.ab⟩
  have := kk.he; have := h.ab.hle; have := h.ab.said; omega
theorem PI.cut (h : PI T U s0 s1 g0 g1 pk n) (j : Nat) : PI T U s0 s1 g0 g1 (pk.take j ++ pk.drop (j + 1)) (n + 1) := by
  have h' := h.more
  refine ⟨h'.ab, h'.ba, fun k hk => h.pks k ?_, h'.tT, h'.tU, h'.fT, h'.fU, ?_, h'.n0, h'.n1⟩
  · rcases List.mem_append.1 hk with hk | hk
    · exact List.mem_of_mem_take hk
    · exact List.mem_of_mem_drop hk
  · have := h.way; simp; omega
theorem PI.got0 (h : PI T U s0 s1 g0 g1 pk n) : PI (gotT T) U s0 s1 (g0 ++ T.got) g1 pk n :=
  ⟨h.ab.sender rfl rfl, h.ba.gotten, pks_of h.pks (Nat.le_refl _) (Nat.le_refl _) (Nat.le_refl _) (Nat.le_refl _), h.tT.gotten, h.tU, ⟨h.fT.gone, h.fT.last, h.fT.again⟩, h.fU, h.way, h.n0, h.n1⟩
theorem PI.got1 (h : PI T U s0 s1 g0 g1 pk n) : PI T (gotT U) s0 s1 g0 (g1 ++ U.got) pk n :=
  ⟨h.ab.gotten, h.ba.sender rfl rfl, pks_of h.pks (Nat.le_refl _) (Nat.le_refl _) (Nat.le_refl _) (Nat.le_refl _), h.tT, h.tU.gotten, h.fT, ⟨h.fU.gone, h.fU.last, h.fU.again⟩, h.way, h.n0, h.n1⟩
theorem pi_new (a b : Nat) (ha : 1 ≤ a) (ha2 : a ≤ 64) (hb : b ≤ 1000) : PI (newT a b) (newT a b) 0 0 [] [] [] 0 := by
  have d : ∀ e, Dir e (newT a b) (newT a b) 0 [] := fun e => ⟨rfl, by simp [newT], by simp [newT, wds], by simp [newT], by simp [newT], by simp [newT, wds]⟩
  have f : Fit (newT a b) 0 := ⟨fun h => by simp [newT] at h, by simp [newT], hb⟩
  exact ⟨d 0, d 1, fun k hk => (by cases hk), newT_ok a b ha ha2 hb _, newT_ok a b ha ha2 hb _, f, f, by simp, by omega, by omega⟩
end

set_option maxRecDepth 100000 in
set_option maxHeartbeats 40000000 in
theorem play_to (dx dy : Int) (v2 : Value) (n0 : Nat) (F : Nat → Int × Int) (w w0 : World) (hn0 : n0 ≤ maxLen) (O : Ow w w0 []) (hv2 : Rws w0 v2 n0 2 (fun i => [.int .i64 (F i).1, .int .i64 (F i).2])) :
    Calls Try.prog 16 #[.agg #[.int .i64 dx, .int .i64 dy], v2] w fun e w' => ∃ (p q b12 b13 : Nat) (T U : TS) (s0 s1 : Nat) (gv0 gv1 wv : Value) (g0 g1 : List (List UInt8)) (pk : List PkV) (n : Nat) (E : List Blk), e = .returned (.tuple #[ptr p, ptr q, .agg #[.int .i64 s0, .int .i64 s1], .agg #[gv0, gv1]]) ∧ n ≤ 120 ∧ PS w0 E p q b12 b13 T U s0 s1 gv0 gv1 wv g0 g1 pk w' ∧ PI T U s0 s1 g0 g1 pk n ∧ T.got = [] ∧ U.got = [] := by
  obtain ⟨ao, cap, rfl, hcap, hnil⟩ := hv2.slice
  have HV := Lib.hid hv2
  have HOw := Lib.hid O
  obtain ⟨a, HA⟩ : ∃ a, Hid (1 + cutN dx 64 = a) := ⟨_, rfl⟩
  obtain ⟨b, HB⟩ : ∃ b, Hid (1 + cutN dy 1000 = b) := ⟨_, rfl⟩
  have ha1 : 1 ≤ a := by rw [← HA.out]; omega
  have ha2 : a ≤ 64 := by rw [← HA.out]; have : cutN dx 64 < 64 := Nat.mod_lt _ (by omega); omega
  have hb2 : b ≤ 1000 := by rw [← HB.out]; have : cutN dy 1000 < 1000 := Nat.mod_lt _ (by omega); omega
  have HS : Hid (Ow (((w.alloc (.cells #[.int .i64 dx, .int .i64 dy] 22)).alloc (.cells #[.int .i64 0, .int .i64 0] 22)).alloc (.cells #[.slice none 0 0, .slice none 0 0] 41)) w0 [⟨w.heap.size + 2, 41, #[.slice none 0 0, .slice none 0 0]⟩, ⟨w.heap.size + 1, 22, #[.int .i64 0, .int .i64 0]⟩, ⟨w.heap.size, 22, #[.int .i64 dx, .int .i64 dy]⟩]) := ((O.key #[.int .i64 dx, .int .i64 dy] 22 w.heap.size rfl).key #[.int .i64 0, .int .i64 0] 22 (w.heap.size + 1) (by simp)).key #[.slice none 0 0, .slice none 0 0] 41 (w.heap.size + 2) (by simp)
  have hml0 : n0 ≤ 9223372036854775807 := by unfold maxLen at hn0; omega
  clear hv2 hn0 O
  go_enter Try.func16, Try.ntmps16
  go_wp2_with fail
  refine (begin_to dx dy _ w0 _ HS.out a b HA.out HB.out).mono ?_
  rintro e w1 ⟨p, A, rfl, O1, t1⟩
  have hb0 := O1.has (b := w.heap.size) (t := 22) (cs := #[.int .i64 dx, .int .i64 dy]) (by simp)
  have k0 := hb0.cell 0
  have k1 := hb0.cell 1
  have l0 := hb0.lt
  have HO1 := Lib.hid (O1.alloc (.cells #[.int .i64 a, .int .i64 b, .slice none 0 0, .int .i64 0, .int .i64 0, .slice none 0 0, .int .i64 0, .int .i64 0, .bool false, .bool false] 27))
  have Ht1 := Lib.hid t1
  clear O1 t1 HS hb0
  go_wp2_with fail
  refine (begin_to dx dy _ w0 _ HO1.out a b HA.out HB.out).mono ?_
  rintro e w2 ⟨q, B, rfl, O2, t2⟩
  have hb0 := O2.has (b := w.heap.size) (t := 22) (cs := #[.int .i64 dx, .int .i64 dy]) (by simp)
  have l2 := hb0.lt
  have S2 : S2C w2 w0 [⟨w.heap.size + 2, 41, #[.slice none 0 0, .slice none 0 0]⟩, ⟨w.heap.size + 1, 22, #[.int .i64 0, .int .i64 0]⟩, ⟨w.heap.size, 22, #[.int .i64 dx, .int .i64 dy]⟩] [] p (newT a b) q (newT a b) := ⟨A, B, O2.perm (perm_cnt fun x => by simp only [cnt_append, cnt_cons, cnt_nil] <;> omega), Ht1.out, t2⟩
  have HS3 := Lib.hid (((S2.alloc (.cells #[.int .i64 a, .int .i64 b, .slice none 0 0, .int .i64 0, .int .i64 0, .slice none 0 0, .int .i64 0, .int .i64 0, .bool false, .bool false] 27)).park (cs := #[.int .i64 0, .int .i64 0]) (t := 22) (b := w2.heap.size + 1) (by simp)).park (cs := #[.slice none 0 0, .slice none 0 0]) (t := 41) (b := w2.heap.size + 1 + 1) (by simp))
  clear O2 t2 S2 hb0 HO1 Ht1
  go_wp2_with fail
  obtain ⟨b12, hb12⟩ : ∃ b12, b12 = w2.heap.size + 1 := ⟨_, rfl⟩
  rw [← hb12] at HS3
  simp only [← hb12]
  obtain ⟨b13, hb13⟩ : ∃ b13, b13 = b12 + 1 := ⟨_, rfl⟩
  rw [← hb13] at HS3
  simp only [← hb13]
  clear hb12 hb13
  obtain ⟨fb, hfb⟩ : ∃ fb : List Blk, fb = [⟨w.heap.size + 2, 41, #[.slice none 0 0, .slice none 0 0]⟩, ⟨w.heap.size + 1, 22, #[.int .i64 0, .int .i64 0]⟩, ⟨w.heap.size, 22, #[.int .i64 dx, .int .i64 dy]⟩] := ⟨_, rfl⟩
  rw [← hfb] at HS3
  have HF := Lib.hid hfb
  clear hfb
  go_loopw [14, 15] (fun vw vi wr => ∃ (n : Nat) (T U : TS) (s0 s1 : Nat) (gv0 gv1 : Value) (g0 g1 : List (List UInt8)) (pk : List PkV), vi = .int .i64 n ∧ n ≤ 120 ∧ n ≤ n0 ∧ PS w0 fb p q b12 b13 T U s0 s1 gv0 gv1 vw g0 g1 pk wr ∧ PI T U s0 s1 g0 g1 pk n ∧ T.got = [] ∧ U.got = []) (fun _ i _ => 120 - (intOf i).toNat)
  case atStart =>
    exact ⟨0, newT a b, newT a b, 0, 0, _, _, [], [], [], rfl, by omega, by omega, ⟨[], [], [], [], [], [], HS3.out.permC (by simpa using List.Perm.swap _ _ _), .void, fun k hk => (by cases hk), .void, Msgs.nil _ _, .void, Msgs.nil _ _⟩, pi_new a b ha1 ha2 hb2, rfl, rfl⟩
  case round =>
    obtain ⟨n, T, U, s0, s1, gv0, gv1, g0, g1, pk, rfl, hn, hnn, hPS, hPI, hgT, hgU⟩ := hrel
    obtain ⟨X, Bw, B0, B1, us0, us1, hS, hRw, hMw, hR0, hM0, hR1, hM1⟩ := hPS
    have HS := Lib.hid hS
    have HRw := Lib.hid hRw
    have HMw := Lib.hid hMw
    have HR0 := Lib.hid hR0
    have HM0 := Lib.hid hM0
    have HR1 := Lib.hid hR1
    have HM1 := Lib.hid hM1
    have HI := Lib.hid hPI
    have HgT := Lib.hid hgT
    have HgU := Lib.hid hgU
    obtain ⟨aw, cw, rfl⟩ := hRw.slice
    obtain ⟨e0, f0, rfl⟩ := hR0.slice
    obtain ⟨e1, f1, rfl⟩ := hR1.slice
    have q1 := hPI.way
    have q2 := hPI.n0
    have q3 := hPI.n1
    clear hS hRw hMw hR0 hM0 hR1 hM1 hPI hgT hgU
    by_cases hlt : n < n0 ∧ n < 120
    · obtain ⟨hlt1, hlt2⟩ := hlt
      obtain ⟨Y, OY, -, -⟩ := HS.out.ow
      obtain ⟨r, o, rfl, hr, hc⟩ := HV.out.at_ OY n hlt1
      obtain ⟨⟨kd, dat⟩, HFk⟩ : ∃ y, Hid (F n = y) := ⟨_, rfl⟩
      rw [HFk.out] at hc
      have c0 := hc 0 _ rfl
      have c1 := hc 1 _ rfl
      rw [← Nat.add_assoc] at c0 c1
      rw [Nat.add_zero] at c0
      have hb12 := HS.out.has (b := b12) (List.mem_cons_self ..)
      have x0 := hb12.cell 0
      have x1 := hb12.cell 1
      have lx := hb12.lt
      have fx0 := hb12.frozen 0
      have fx1 := hb12.frozen 1
      clear OY hc hb12
      have hk6 : cutN kd 6 < 6 := Nat.mod_lt _ (by omega)
      have ez6 := cut_eq kd 6 (by omega) (by omega)
      generalize cutN kd 6 = kk at ez6 hk6
      have ez6' : wrap64 ((IntKind.u64.wrap kd).tmod 6) = (kk : Int) := ez6
      clear ez6
      rcases Nat.eq_zero_or_pos pk.length with hp0 | hp0
      · have hd0 : decide ((0 : Int) < (pk.length : Int)) = false := decide_eq_false (by omega)
        have hd0' : decide (0 < pk.length) = false := decide_eq_false (by omega)
        have hd0'' : ¬ 0 < pk.length := by omega
        have HP0 := Lib.hid hp0
        clear hp0
        go_upto_block 2 with fail
        go_cut [14, 18, 19, 20, 21] from 40 to 177 (fun vw v18 v19 v20 v21 wc => ∃ (T' U' : TS) (s0' s1' : Nat) (pk' : List PkV), PS w0 fb p q b12 b13 T' U' s0' s1' (.slice e0 g0.length f0) (.slice e1 g1.length f1) vw g0 g1 pk' wc ∧ PI T' U' s0' s1' g0 g1 pk' (n + 1))
        case first =>
          have HSa := Lib.hid (HS.out.alloc (.cells #[.int .i64 kd, .int .i64 dat] 87))
          clear HS
          rcases (by omega : kk = 0 ∨ kk = 1 ∨ kk = 2 ∨ kk = 3 ∨ kk = 4 ∨ kk = 5) with hkk | hkk | hkk | hkk | hkk | hkk
          · subst hkk
            have ezz : wrap64 ((IntKind.u64.wrap kd).tmod 6) = (0 : Int) := ez6'
            clear ez6'
            as_aux_lemma =>
              go_wp2_with fail
              refine (word_to 0 s0 (by omega) (by omega) _).mono ?_
              rintro e w5 ⟨v, rfl, hb5, hc5⟩
              have HS5 := Lib.hid (HSa.out.of_below hb5)
              obtain ⟨Y, OY, -, -⟩ := HSa.out.ow
              obtain ⟨NB, O5, M5⟩ := hc5.found' OY (Ext.of_below hb5)
              have hbs := (M5 w0).bsl O5 (fun z hz => List.mem_append_left _ hz)
              obtain ⟨av, cv, rfl⟩ := (M5 w0).slice
              have HB5 := Lib.hid hbs
              clear hb5 hc5 OY O5 M5 hbs
              obtain ⟨E, HE⟩ : ∃ E, Hid (sayE T (wdL 0 s0) = E) := ⟨_, rfl⟩
              obtain ⟨T', HT'⟩ : ∃ T', Hid (sayT T (wdL 0 s0) = T') := ⟨_, rfl⟩
              go_wp2_with fail
              refine (HS5.out.say _ _ HB5.out (HI.out.tT.mono (by omega)) E HE.out T' HT'.out).mono ?_
              rintro e w6 ⟨rfl, X6, hs6, s6'⟩
              have s6 := s6'
              have HS6 := Lib.hid s6
              have Hs6 := Lib.hid hs6
              have hb12 := s6.has (b := b12) (t := 22) (cs := #[.int .i64 s0, .int .i64 s1]) (List.mem_cons_self ..)
              have y0 := hb12.cell 0
              have y1 := hb12.cell 1
              have ly := hb12.lt
              have fy0 := hb12.frozen 0
              have fy1 := hb12.frozen 1
              clear s6 s6' hs6 hb12 HS5
              by_cases hE0 : E = 0
              · subst hE0
                have hi : PI T' U (s0 + 1) s1 g0 g1 pk (n + 1) := by rw [← HT'.out]; exact HI.out.say0 HE.out
                have HI2 := Lib.hid hi
                clear hi
                go_wp2_with fail
                go_meet
                have S7 : S2C (w6.setCell ⟨b12, 0, none⟩ (.int .i64 ((s0 : Int) + 1))) w0 (⟨b12, 22, #[.int .i64 ((s0 + 1 : Nat) : Int), .int .i64 s1]⟩ :: (⟨b13, 41, #[.slice e0 g0.length f0, .slice e1 g1.length f1]⟩ :: (fb ++ (Bw ++ (B0 ++ B1))))) X6 p T' q U := by
                  have := HS6.out.set 0 (.int .i64 ((s0 : Int) + 1))
                  simpa using this
                exact ⟨T', U, (s0 + 1), s1, pk, ⟨X6, Bw, B0, B1, us0, us1, S7, HRw.out, fun k hk => (HMw.out k hk).mono Hs6.out, HR0.out, HM0.out.mono Hs6.out, HR1.out, HM1.out.mono Hs6.out⟩, HI2.out⟩
              · have hE1 : ((E : Int) == 0) = false := by rw [beq_eq_false_iff_ne]; omega
                have hT : T' = T := by rw [← HT'.out]; exact say_not (by rw [HE.out]; exact hE0)
                subst hT
                go_wp2_with fail
                go_meet
                exact ⟨_, _, s0, s1, pk, ⟨X6, Bw, B0, B1, us0, us1, HS6.out, HRw.out, fun k hk => (HMw.out k hk).mono Hs6.out, HR0.out, HM0.out.mono Hs6.out, HR1.out, HM1.out.mono Hs6.out⟩, HI.out.more⟩
          · subst hkk
            have ezz : wrap64 ((IntKind.u64.wrap kd).tmod 6) = (1 : Int) := ez6'
            clear ez6'
            as_aux_lemma =>
              go_wp2_with fail
              refine (word_to 1 s1 (by omega) (by omega) _).mono ?_
              rintro e w5 ⟨v, rfl, hb5, hc5⟩
              have HS5 := Lib.hid (HSa.out.of_below hb5)
              obtain ⟨Y, OY, -, -⟩ := HSa.out.ow
              obtain ⟨NB, O5, M5⟩ := hc5.found' OY (Ext.of_below hb5)
              have hbs := (M5 w0).bsl O5 (fun z hz => List.mem_append_left _ hz)
              obtain ⟨av, cv, rfl⟩ := (M5 w0).slice
              have HB5 := Lib.hid hbs
              clear hb5 hc5 OY O5 M5 hbs
              obtain ⟨E, HE⟩ : ∃ E, Hid (sayE U (wdL 1 s1) = E) := ⟨_, rfl⟩
              obtain ⟨T', HT'⟩ : ∃ T', Hid (sayT U (wdL 1 s1) = T') := ⟨_, rfl⟩
              go_wp2_with fail
              refine (HS5.out.swap.say _ _ HB5.out (HI.out.tU.mono (by omega)) E HE.out T' HT'.out).mono ?_
              rintro e w6 ⟨rfl, X6, hs6, s6'⟩
              have s6 := s6'.swap
              have HS6 := Lib.hid s6
              have Hs6 := Lib.hid hs6
              have hb12 := s6.has (b := b12) (t := 22) (cs := #[.int .i64 s0, .int .i64 s1]) (List.mem_cons_self ..)
              have y0 := hb12.cell 0
              have y1 := hb12.cell 1
              have ly := hb12.lt
              have fy0 := hb12.frozen 0
              have fy1 := hb12.frozen 1
              clear s6 s6' hs6 hb12 HS5
              by_cases hE0 : E = 0
              · subst hE0
                have hi : PI T T' s0 (s1 + 1) g0 g1 pk (n + 1) := by rw [← HT'.out]; exact HI.out.say1 HE.out
                have HI2 := Lib.hid hi
                clear hi
                go_wp2_with fail
                go_meet
                have S7 : S2C (w6.setCell ⟨b12, 1, none⟩ (.int .i64 ((s1 : Int) + 1))) w0 (⟨b12, 22, #[.int .i64 s0, .int .i64 ((s1 + 1 : Nat) : Int)]⟩ :: (⟨b13, 41, #[.slice e0 g0.length f0, .slice e1 g1.length f1]⟩ :: (fb ++ (Bw ++ (B0 ++ B1))))) X6 p T q T' := by
                  have := HS6.out.set 1 (.int .i64 ((s1 : Int) + 1))
                  simpa using this
                exact ⟨T, T', s0, (s1 + 1), pk, ⟨X6, Bw, B0, B1, us0, us1, S7, HRw.out, fun k hk => (HMw.out k hk).mono Hs6.out, HR0.out, HM0.out.mono Hs6.out, HR1.out, HM1.out.mono Hs6.out⟩, HI2.out⟩
              · have hE1 : ((E : Int) == 0) = false := by rw [beq_eq_false_iff_ne]; omega
                have hT : T' = U := by rw [← HT'.out]; exact say_not (by rw [HE.out]; exact hE0)
                subst hT
                go_wp2_with fail
                go_meet
                exact ⟨_, _, s0, s1, pk, ⟨X6, Bw, B0, B1, us0, us1, HS6.out, HRw.out, fun k hk => (HMw.out k hk).mono Hs6.out, HR0.out, HM0.out.mono Hs6.out, HR1.out, HM1.out.mono Hs6.out⟩, HI.out.more⟩
          · subst hkk
            have ezz : wrap64 ((IntKind.u64.wrap kd).tmod 6) = (2 : Int) := ez6'
            clear ez6'
            as_aux_lemma =>
              cases hdue : dueT T n with
              | false =>
                go_wp2_with fail
                refine (HSa.out.tickNo n (by omega) (HI.out.tT.mono (by omega)) hdue).mono ?_
                rintro e w6 ⟨rfl, s6⟩
                have HS6 := Lib.hid (s6.alloc (.cells #[.int .i64 0, .slice none 0 0, .int .i64 0] 36))
                clear s6
                go_wp2_with fail
                go_meet
                exact ⟨T, U, s0, s1, pk, ⟨X, Bw, B0, B1, us0, us1, HS6.out, HRw.out, HMw.out, HR0.out, HM0.out.mono (Sub.refl _), HR1.out, HM1.out.mono (Sub.refl _)⟩, HI.out.more⟩
              | true =>
                obtain ⟨ms, HMS⟩ : ∃ ms, Hid (T.waits = ms) := ⟨_, rfl⟩
                obtain ⟨fi, HFI⟩ : ∃ fi, Hid (T.said - T.waits.length = fi) := ⟨_, rfl⟩
                obtain ⟨hd, HHD⟩ : ∃ hd, Hid (T.heard = hd) := ⟨_, rfl⟩
                obtain ⟨T', HT'⟩ : ∃ T', Hid (tickT T n = T') := ⟨_, rfl⟩
                go_wp2_with fail
                refine (HSa.out.tickYes n (by omega) (HI.out.tT.mono (by omega)) hdue fi hd HFI.out HHD.out ms HMS.out T' HT'.out).mono ?_
                rintro e w6 ⟨u, X6, rfl, hs6, s6, m6⟩
                obtain ⟨au, cu, rfl⟩ := m6.slice
                have HS6 : Hid (S2C (w6.alloc (.cells #[.int .i64 fi, .slice au ms.length cu, .int .i64 hd] 36)) w0 (Bw ++ (⟨b12, 22, #[.int .i64 s0, .int .i64 s1]⟩ :: (⟨b13, 41, #[.slice e0 g0.length f0, .slice e1 g1.length f1]⟩ :: (fb ++ (B0 ++ B1))))) X6 p T' q U) := ((s6).alloc _).permC (perm_cnt fun x => by simp only [cnt_append, cnt_cons, cnt_nil] <;> omega)
                have Hs6 := Lib.hid hs6
                have Hm6 := Lib.hid m6
                have HI2 : Hid (PI T' U s0 s1 g0 g1 (pk ++ [(⟨fi, ms, hd, .slice au ms.length cu, true⟩ : PkV)]) (n + 1)) := by
                  have := HI.out.tick0 (by omega) (.slice au ms.length cu)
                  rw [HT'.out, HFI.out, HMS.out, HHD.out] at this
                  exact this
                clear s6 hs6 m6
                go_wp2_with (at_builtin; refine HS6.out.appendNew rfl (.tmp 103) (.tmp 106) 85 rfl elt_sent (by rfl) HRw.out #[.int .i64 fi, .slice au ms.length cu, .int .i64 hd, .bool true] _ _ 1 1 (by rfl) (by simp) (by rfl) (by simp [Value.oneCell']) (by unfold maxLen; omega) (by omega) (pk.length + 1) rfl (wayc (pk ++ [(⟨fi, ms, hd, .slice au ms.length cu, true⟩ : PkV)])) (by rw [wayc_app]; rfl) (fun ao' cap' B' w7 R7 s7 => ?_); (have HR7 := Lib.hid R7); (have HS7 : Hid (S2C w7 w0 (⟨b12, 22, #[.int .i64 s0, .int .i64 s1]⟩ :: (⟨b13, 41, #[.slice e0 g0.length f0, .slice e1 g1.length f1]⟩ :: (fb ++ (B' ++ (B0 ++ B1))))) X6 p T' q U) := s7.permC (perm_cnt fun x => by simp only [cnt_append, cnt_cons, cnt_nil] <;> omega)); clear R7 s7)
                go_meet
                have hRw' : Row 89 4 (.slice ao' (pk.length + 1) cap') (pk ++ [(⟨fi, ms, hd, .slice au ms.length cu, true⟩ : PkV)]).length (wayc (pk ++ [(⟨fi, ms, hd, .slice au ms.length cu, true⟩ : PkV)])) B' := by simpa using HR7.out
                have hMw' : ∀ k ∈ pk ++ [(⟨fi, ms, hd, .slice au ms.length cu, true⟩ : PkV)], MsgL w0 X6 k.v k.ms := fun k hk => by
                  rcases List.mem_append.1 hk with hk | hk
                  · exact (HMw.out k hk).mono Hs6.out
                  · obtain rfl := List.mem_singleton.1 hk
                    exact Hm6.out
                exact ⟨T', U, s0, s1, (pk ++ [(⟨fi, ms, hd, .slice au ms.length cu, true⟩ : PkV)]), ⟨X6, B', B0, B1, us0, us1, HS7.out, hRw', hMw', HR0.out, HM0.out.mono Hs6.out, HR1.out, HM1.out.mono Hs6.out⟩, HI2.out⟩
          · subst hkk
            have ezz : wrap64 ((IntKind.u64.wrap kd).tmod 6) = (3 : Int) := ez6'
            clear ez6'
            as_aux_lemma =>
              cases hdue : dueT U n with
              | false =>
                go_wp2_with fail
                refine (HSa.out.swap.tickNo n (by omega) (HI.out.tU.mono (by omega)) hdue).mono ?_
                rintro e w6 ⟨rfl, s6⟩
                have HS6 := Lib.hid (s6.swap.alloc (.cells #[.int .i64 0, .slice none 0 0, .int .i64 0] 36))
                clear s6
                go_wp2_with fail
                go_meet
                exact ⟨T, U, s0, s1, pk, ⟨X, Bw, B0, B1, us0, us1, HS6.out, HRw.out, HMw.out, HR0.out, HM0.out.mono (Sub.refl _), HR1.out, HM1.out.mono (Sub.refl _)⟩, HI.out.more⟩
              | true =>
                obtain ⟨ms, HMS⟩ : ∃ ms, Hid (U.waits = ms) := ⟨_, rfl⟩
                obtain ⟨fi, HFI⟩ : ∃ fi, Hid (U.said - U.waits.length = fi) := ⟨_, rfl⟩
                obtain ⟨hd, HHD⟩ : ∃ hd, Hid (U.heard = hd) := ⟨_, rfl⟩
                obtain ⟨T', HT'⟩ : ∃ T', Hid (tickT U n = T') := ⟨_, rfl⟩
                go_wp2_with fail
                refine (HSa.out.swap.tickYes n (by omega) (HI.out.tU.mono (by omega)) hdue fi hd HFI.out HHD.out ms HMS.out T' HT'.out).mono ?_
                rintro e w6 ⟨u, X6, rfl, hs6, s6, m6⟩
                obtain ⟨au, cu, rfl⟩ := m6.slice
                have HS6 : Hid (S2C (w6.alloc (.cells #[.int .i64 fi, .slice au ms.length cu, .int .i64 hd] 36)) w0 (Bw ++ (⟨b12, 22, #[.int .i64 s0, .int .i64 s1]⟩ :: (⟨b13, 41, #[.slice e0 g0.length f0, .slice e1 g1.length f1]⟩ :: (fb ++ (B0 ++ B1))))) X6 p T q T') := ((s6.swap).alloc _).permC (perm_cnt fun x => by simp only [cnt_append, cnt_cons, cnt_nil] <;> omega)
                have Hs6 := Lib.hid hs6
                have Hm6 := Lib.hid m6
                have HI2 : Hid (PI T T' s0 s1 g0 g1 (pk ++ [(⟨fi, ms, hd, .slice au ms.length cu, false⟩ : PkV)]) (n + 1)) := by
                  have := HI.out.tick1 (by omega) (.slice au ms.length cu)
                  rw [HT'.out, HFI.out, HMS.out, HHD.out] at this
                  exact this
                clear s6 hs6 m6
                go_wp2_with (at_builtin; refine HS6.out.appendNew rfl (.tmp 117) (.tmp 120) 85 rfl elt_sent (by rfl) HRw.out #[.int .i64 fi, .slice au ms.length cu, .int .i64 hd, .bool false] _ _ 1 1 (by rfl) (by simp) (by rfl) (by simp [Value.oneCell']) (by unfold maxLen; omega) (by omega) (pk.length + 1) rfl (wayc (pk ++ [(⟨fi, ms, hd, .slice au ms.length cu, false⟩ : PkV)])) (by rw [wayc_app]; rfl) (fun ao' cap' B' w7 R7 s7 => ?_); (have HR7 := Lib.hid R7); (have HS7 : Hid (S2C w7 w0 (⟨b12, 22, #[.int .i64 s0, .int .i64 s1]⟩ :: (⟨b13, 41, #[.slice e0 g0.length f0, .slice e1 g1.length f1]⟩ :: (fb ++ (B' ++ (B0 ++ B1))))) X6 p T q T') := s7.permC (perm_cnt fun x => by simp only [cnt_append, cnt_cons, cnt_nil] <;> omega)); clear R7 s7)
                go_meet
                have hRw' : Row 89 4 (.slice ao' (pk.length + 1) cap') (pk ++ [(⟨fi, ms, hd, .slice au ms.length cu, false⟩ : PkV)]).length (wayc (pk ++ [(⟨fi, ms, hd, .slice au ms.length cu, false⟩ : PkV)])) B' := by simpa using HR7.out
                have hMw' : ∀ k ∈ pk ++ [(⟨fi, ms, hd, .slice au ms.length cu, false⟩ : PkV)], MsgL w0 X6 k.v k.ms := fun k hk => by
                  rcases List.mem_append.1 hk with hk | hk
                  · exact (HMw.out k hk).mono Hs6.out
                  · obtain rfl := List.mem_singleton.1 hk
                    exact Hm6.out
                exact ⟨T, T', s0, s1, (pk ++ [(⟨fi, ms, hd, .slice au ms.length cu, false⟩ : PkV)]), ⟨X6, B', B0, B1, us0, us1, HS7.out, hRw', hMw', HR0.out, HM0.out.mono Hs6.out, HR1.out, HM1.out.mono Hs6.out⟩, HI2.out⟩
          · subst hkk
            have ezz : wrap64 ((IntKind.u64.wrap kd).tmod 6) = (4 : Int) := ez6'
            clear ez6'
            as_aux_lemma =>
              go_wp2_with fail
              go_meet
              exact ⟨T, U, s0, s1, pk, ⟨X, Bw, B0, B1, us0, us1, HSa.out, HRw.out, HMw.out, HR0.out, HM0.out.mono (Sub.refl _), HR1.out, HM1.out.mono (Sub.refl _)⟩, HI.out.more⟩
          · subst hkk
            have ezz : wrap64 ((IntKind.u64.wrap kd).tmod 6) = (5 : Int) := ez6'
            clear ez6'
            as_aux_lemma =>
              go_wp2_with fail
              go_meet
              exact ⟨T, U, s0, s1, pk, ⟨X, Bw, B0, B1, us0, us1, HSa.out, HRw.out, HMw.out, HR0.out, HM0.out.mono (Sub.refl _), HR1.out, HM1.out.mono (Sub.refl _)⟩, HI.out.more⟩
        case rest =>
          as_aux_lemma =>
            obtain ⟨T', U', s0', s1', pk', hPS', hPI'⟩ := hcut
            obtain ⟨X, Bw, B0, B1, us0, us1, hS, hRw, hMw, hR0, hM0, hR1, hM1⟩ := hPS'
            have HSc := Lib.hid hS
            have HRw := Lib.hid hRw
            have HMw := Lib.hid hMw
            have HR0 := Lib.hid hR0
            have HM0 := Lib.hid hM0
            have HR1 := Lib.hid hR1
            have HM1 := Lib.hid hM1
            have HI := Lib.hid hPI'
            have HWT := Lib.hid hPI'.tT
            have HWU := Lib.hid hPI'.tU
            have hg0 : g0.length ≤ 1000000 := by
              have h1 := hPI'.ba.got
              have h2 := hPI'.ba.hle
              have h3 := hPI'.n1
              have h4 : (g0 ++ T'.got).length = T'.heard := by rw [h1, wds_len]
              simp at h4
              omega
            have hg1 : g1.length ≤ 1000000 := by
              have h1 := hPI'.ab.got
              have h2 := hPI'.ab.hle
              have h3 := hPI'.n0
              have h4 : (g1 ++ U'.got).length = U'.heard := by rw [h1, wds_len]
              simp at h4
              omega
            clear hS hRw hMw hR0 hM0 hR1 hM1 hPI'
            go_wp2_with fail
            refine wp_region_ov (fun L (x : Value × Value) => [(L 0, 166, .pointer (some ⟨b13, 0, none⟩)), (L 1, 167, .slice e0 g0.length f0), (L 2, 168, ptr p), (L 3, 169, x.1), (L 4, 170, x.2), (L 5, 171, .pointer (some ⟨b13, 0, none⟩))])
              (fun L x W => (L 3 = false → S2C W w0 (⟨b12, 22, #[.int .i64 s0', .int .i64 s1']⟩ :: (⟨b13, 41, #[.slice e0 g0.length f0, .slice e1 g1.length f1]⟩ :: (fb ++ (Bw ++ (B0 ++ B1))))) X p T' q U') ∧ (L 3 = true → L 4 = false → ∃ X', Sub X X' ∧ S2C W w0 (⟨b12, 22, #[.int .i64 s0', .int .i64 s1']⟩ :: (⟨b13, 41, #[.slice e0 g0.length f0, .slice e1 g1.length f1]⟩ :: (fb ++ (Bw ++ (B0 ++ B1))))) X' p (gotT T') q U' ∧ MsgL w0 X' x.1 T'.got) ∧ (L 4 = true → ∃ X' B' us', Sub X X' ∧ (∃ ax cx, x.2 = .slice ax (g0.length + T'.got.length) cx) ∧ Row 34 1 x.2 (g0.length + T'.got.length) us' B' ∧ Msgs w0 X' us' (g0 ++ T'.got) ∧ S2C W w0 (⟨b12, 22, #[.int .i64 s0', .int .i64 s1']⟩ :: (⟨b13, 41, #[bif L 6 then x.2 else .slice e0 g0.length f0, .slice e1 g1.length f1]⟩ :: (fb ++ (Bw ++ (B' ++ B1))))) X' p (gotT T') q U')) (undef, undef) (by kernel_rfl) (by kernel_rfl) (by rfl) ⟨fun _ => HSc.out.drew, fun h => by simp at h, fun h => by simp at h⟩ ?_ ⟨?_, ?_, ?_, ?_, ?_, ?_, ?_, trivial⟩
            rotate_left
            · (intro L x W hW hC hL hd K hK; (try simp [depsB, Region.binds] at hd); (try simp only [Nat.reduceAdd] at hK hL); simp only [ovl, Array.getD_eq_getD_getElem?, List.getElem?_toArray, List.getElem?_cons_succ, List.getElem?_cons_zero, Option.getD_some, List.setIfInBounds_toArray, List.set_cons_zero, List.set_cons_succ]; (try simp only [hd, cond_true, cond_false]); go_simp; (have h := hK x W hW); simp only [ovl, Array.getD_eq_getD_getElem?, List.getElem?_toArray, List.getElem?_cons_succ, List.getElem?_cons_zero, Option.getD_some, List.setIfInBounds_toArray, List.set_cons_zero, List.set_cons_succ] at h; (try simp (decide := true) only [upd, hd, cond_true, cond_false, Bool.true_or, Bool.false_or, decide_true, decide_false] at h); exact h)
            · intro L x W hW hC hL hd K hK; (try simp [depsB, Region.binds] at hd); (try simp only [Nat.reduceAdd] at hK hL)
              (have h4 : L 4 = false := by cases hl : L 4 with | false => rfl | true => have hx := hC 4 _ rfl hl; simp [depsB, Region.binds, hL, hd] at hx); (replace hd := And.intro hd h4)
              simp only [ovl, Array.getD_eq_getD_getElem?, List.getElem?_toArray, List.getElem?_cons_succ, List.getElem?_cons_zero, Option.getD_some, List.setIfInBounds_toArray, List.set_cons_zero, List.set_cons_succ]; (try simp only [hd, cond_true, cond_false])
              have hb : HasBlk W b13 41 #[.slice e0 g0.length f0, .slice e1 g1.length f1] := by
                cases h3 : L 3 with
                | false => exact (hW.1 h3).has (List.mem_cons_of_mem _ (List.mem_cons_self ..))
                | true => obtain ⟨X', -, s', -⟩ := hW.2.1 h3 h4; exact s'.has (List.mem_cons_of_mem _ (List.mem_cons_self ..))
              have c0 := hb.cell 0
              have l0 := hb.lt
              clear hb
              go_simp
              (have h := hK x W hW); simp only [ovl, Array.getD_eq_getD_getElem?, List.getElem?_toArray, List.getElem?_cons_succ, List.getElem?_cons_zero, Option.getD_some, List.setIfInBounds_toArray, List.set_cons_zero, List.set_cons_succ] at h; (try simp (decide := true) only [upd, hd, cond_true, cond_false, Bool.true_or, Bool.false_or, decide_true, decide_false] at h); exact h
            · (intro L x W hW hC hL hd K hK; (try simp [depsB, Region.binds] at hd); (try simp only [Nat.reduceAdd] at hK hL); simp only [ovl, Array.getD_eq_getD_getElem?, List.getElem?_toArray, List.getElem?_cons_succ, List.getElem?_cons_zero, Option.getD_some, List.setIfInBounds_toArray, List.set_cons_zero, List.set_cons_succ]; (try simp only [hd, cond_true, cond_false]); go_simp; (have h := hK x W hW); simp only [ovl, Array.getD_eq_getD_getElem?, List.getElem?_toArray, List.getElem?_cons_succ, List.getElem?_cons_zero, Option.getD_some, List.setIfInBounds_toArray, List.set_cons_zero, List.set_cons_succ] at h; (try simp (decide := true) only [upd, hd, cond_true, cond_false, Bool.true_or, Bool.false_or, decide_true, decide_false] at h); exact h)
            · intro L x W hW hC hL hd K hK; (try simp [depsB, Region.binds] at hd); (try simp only [Nat.reduceAdd] at hK hL)
              (have h4 : L 4 = false := by cases hl : L 4 with | false => rfl | true => have hx := hC 4 _ rfl hl; simp [depsB, Region.binds, hL, hd] at hx); (replace hd := And.intro hd h4)
              simp only [ovl, Array.getD_eq_getD_getElem?, List.getElem?_toArray, List.getElem?_cons_succ, List.getElem?_cons_zero, Option.getD_some, List.setIfInBounds_toArray, List.set_cons_zero, List.set_cons_succ]; (try simp only [hd, cond_true, cond_false])
              refine wp_call_in 21 (by rfl) (by kernel_rfl) #[ptr p] (by (simp only [List.map_toArray, List.map_cons, List.map_nil, Act.eval, Array.getD_eq_getD_getElem?, List.getElem?_toArray, List.getElem?_cons_succ, List.getElem?_cons_zero, Option.getD_some])) (((hW.1 hL).got T'.got rfl).mono ?_)
              rintro e W4 ⟨v, X5, rfl, hs5, s5, m5⟩
              refine ⟨_, rfl, ?_⟩
              (have h := hK (v, x.2) W4 ⟨fun h => by simp [upd] at h, fun _ _ => ⟨X5, hs5, s5, m5⟩, fun h => by simp [upd, h4] at h⟩); simp only [ovl, Array.getD_eq_getD_getElem?, List.getElem?_toArray, List.getElem?_cons_succ, List.getElem?_cons_zero, Option.getD_some, List.setIfInBounds_toArray, List.set_cons_zero, List.set_cons_succ] at h; (try simp (decide := true) only [upd, hd, cond_true, cond_false, Bool.true_or, Bool.false_or, decide_true, decide_false] at h); exact h
            · intro L x W hW hC hL hd K hK; (try simp [depsB, Region.binds] at hd); (try simp only [Nat.reduceAdd] at hK hL)
              have h3 : L 3 = true := by simp only [hd]
              obtain ⟨xv, xr⟩ := x
              have hW3 := hW.2.1 h3 hL
              clear hW
              simp only at hW3
              simp only [ovl, Array.getD_eq_getD_getElem?, List.getElem?_toArray, List.getElem?_cons_succ, List.getElem?_cons_zero, Option.getD_some, List.setIfInBounds_toArray, List.set_cons_zero, List.set_cons_succ]; (try simp only [hd, cond_true, cond_false])
              obtain ⟨X5, hs5, s5, m5⟩ := hW3
              obtain ⟨av, cv, rfl⟩ := m5.slice
              obtain ⟨Y5, O5, hX5, -⟩ := s5.ow
              obtain ⟨us5, hl5, hm5, hc5⟩ := m5.open_ O5 hX5
              have hgl : T'.got.length ≤ 1000000 := by have := HWT.out.got; omega
              have s6 : S2C W w0 (B0 ++ (⟨b12, 22, #[.int .i64 s0', .int .i64 s1']⟩ :: (⟨b13, 41, #[.slice e0 g0.length f0, .slice e1 g1.length f1]⟩ :: (fb ++ (Bw ++ B1))))) X5 p (gotT T') q U' := s5.permC (perm_cnt fun x => by simp only [cnt_append, cnt_cons, cnt_nil] <;> omega)
              refine s6.appendK (.tmp 167) (.tmp 169) 25 (by rfl) elt_msg (by rfl) HR0.out av _ cv us5 (by rfl) (by rw [hl5]; omega) m5.cap.2 hc5 hm5.one (by unfold maxLen; omega) (by omega) (g0.length + T'.got.length) rfl (us0 ++ us5) rfl (fun ao' cap' B' W7 R7 s7 => ?_)
              have h6 : L 6 = false := by
                cases h6 : L 6 with
                | false => rfl
                | true => have hx := hC 6 _ rfl h6; simp [depsB, Region.binds, hL] at hx
              have s8 : S2C W7 w0 (⟨b12, 22, #[.int .i64 s0', .int .i64 s1']⟩ :: (⟨b13, 41, #[.slice e0 g0.length f0, .slice e1 g1.length f1]⟩ :: (fb ++ (Bw ++ (B' ++ B1))))) X5 p (gotT T') q U' := s7.permC (perm_cnt fun x => by simp only [cnt_append, cnt_cons, cnt_nil] <;> omega)
              (have h := hK (.slice av T'.got.length cv, .slice ao' (g0.length + T'.got.length) cap') W7 ⟨fun h => by simp [upd, h3] at h, fun _ h => by simp [upd] at h, fun _ => ⟨X5, B', _, hs5, ⟨_, _, rfl⟩, R7, (HM0.out.mono hs5).app hm5, by simpa [upd, h6] using s8⟩⟩); simp only [ovl, Array.getD_eq_getD_getElem?, List.getElem?_toArray, List.getElem?_cons_succ, List.getElem?_cons_zero, Option.getD_some, List.setIfInBounds_toArray, List.set_cons_zero, List.set_cons_succ] at h; (try simp (decide := true) only [upd, hd, cond_true, cond_false, Bool.true_or, Bool.false_or, decide_true, decide_false] at h); exact h
            · (intro L x W hW hC hL hd K hK; (try simp [depsB, Region.binds] at hd); (try simp only [Nat.reduceAdd] at hK hL); simp only [ovl, Array.getD_eq_getD_getElem?, List.getElem?_toArray, List.getElem?_cons_succ, List.getElem?_cons_zero, Option.getD_some, List.setIfInBounds_toArray, List.set_cons_zero, List.set_cons_succ]; (try simp only [hd, cond_true, cond_false]); go_simp; (have h := hK x W hW); simp only [ovl, Array.getD_eq_getD_getElem?, List.getElem?_toArray, List.getElem?_cons_succ, List.getElem?_cons_zero, Option.getD_some, List.setIfInBounds_toArray, List.set_cons_zero, List.set_cons_succ] at h; (try simp (decide := true) only [upd, hd, cond_true, cond_false, Bool.true_or, Bool.false_or, decide_true, decide_false] at h); exact h)
            · intro L x W hW hC hL hd K hK; (try simp [depsB, Region.binds] at hd); (try simp only [Nat.reduceAdd] at hK hL)
              have h4 : L 4 = true := by simp only [hd]
              obtain ⟨xv, xr⟩ := x
              have hW4 := hW.2.2 h4
              clear hW
              simp only [hL, cond_false] at hW4
              simp only [ovl, Array.getD_eq_getD_getElem?, List.getElem?_toArray, List.getElem?_cons_succ, List.getElem?_cons_zero, Option.getD_some, List.setIfInBounds_toArray, List.set_cons_zero, List.set_cons_succ]; (try simp only [hd, cond_true, cond_false])
              obtain ⟨X5, B5, us5, hs5, ⟨ax, cx, rfl⟩, R5, M5, s5⟩ := hW4
              have hb := s5.has (b := b13) (t := 41) (cs := #[.slice e0 g0.length f0, .slice e1 g1.length f1]) (List.mem_cons_of_mem _ (List.mem_cons_self ..))
              have c0 := hb.cell 0
              have fz := hb.frozen 0
              have l0 := hb.lt
              clear hb
              have s6 : S2C W w0 (⟨b13, 41, #[.slice e0 g0.length f0, .slice e1 g1.length f1]⟩ :: (⟨b12, 22, #[.int .i64 s0', .int .i64 s1']⟩ :: (fb ++ (Bw ++ (B5 ++ B1))))) X5 p (gotT T') q U' := s5.permC (perm_cnt fun x => by simp only [cnt_append, cnt_cons, cnt_nil] <;> omega)
              have s7 := s6.set 0 (.slice ax (g0.length + T'.got.length) cx)
              have s8 : S2C (W.setCell ⟨b13, 0, none⟩ (.slice ax (g0.length + T'.got.length) cx)) w0 (⟨b12, 22, #[.int .i64 s0', .int .i64 s1']⟩ :: (⟨b13, 41, #[.slice ax (g0.length + T'.got.length) cx, .slice e1 g1.length f1]⟩ :: (fb ++ (Bw ++ (B5 ++ B1))))) X5 p (gotT T') q U' := by
                refine S2C.permC (C := (⟨b13, 41, #[.slice ax (g0.length + T'.got.length) cx, .slice e1 g1.length f1]⟩ :: (⟨b12, 22, #[.int .i64 s0', .int .i64 s1']⟩ :: (fb ++ (Bw ++ (B5 ++ B1)))))) ?_ (perm_cnt fun x => by simp only [cnt_append, cnt_cons, cnt_nil] <;> omega)
                simpa using s7
              clear s5 s6 s7
              go_simp
              (have h := hK (xv, .slice ax (g0.length + T'.got.length) cx) _ ⟨fun h => by simp [upd, hd] at h, fun _ h => by simp [upd, hd] at h, fun _ => ⟨X5, B5, us5, hs5, ⟨_, _, rfl⟩, R5, M5, by simpa [upd] using s8⟩⟩); simp only [ovl, Array.getD_eq_getD_getElem?, List.getElem?_toArray, List.getElem?_cons_succ, List.getElem?_cons_zero, Option.getD_some, List.setIfInBounds_toArray, List.set_cons_zero, List.set_cons_succ] at h; (try simp (decide := true) only [upd, hd, cond_true, cond_false, Bool.true_or, Bool.false_or, decide_true, decide_false] at h); exact h
            intro x W9 hW9
            simp only [ovl, cond_true, Array.getD_eq_getD_getElem?, List.getElem?_toArray, List.getElem?_cons_succ, List.getElem?_cons_zero, Option.getD_some, List.setIfInBounds_toArray, List.set_cons_zero, List.set_cons_succ]
            obtain ⟨xv, xr⟩ := x
            simp only [cond_true] at hW9
            obtain ⟨X7, BN0, un0, hs7, ⟨ax0, cx0, rfl⟩, RN0, MN0, sN0⟩ := hW9.2.2 trivial
            have HM0' := Lib.hid (MN0)
            clear HSc
            have HSc := Lib.hid sN0
            have HM1' := Lib.hid (HM1.out.mono hs7)
            clear HM1 sN0 hW9 MN0
            have HM1 := HM1'
            clear HM1'
            have HRN0 := Lib.hid RN0
            clear RN0
            go_wp2_with fail
            refine wp_region_ov (fun L (x : Value × Value) => [(L 0, 172, .pointer (some ⟨b13, 1, none⟩)), (L 1, 173, .slice e1 g1.length f1), (L 2, 174, ptr q), (L 3, 175, x.1), (L 4, 176, x.2), (L 5, 177, .pointer (some ⟨b13, 1, none⟩))])
              (fun L x W => (L 3 = false → S2C W w0 (⟨b12, 22, #[.int .i64 s0', .int .i64 s1']⟩ :: (⟨b13, 41, #[.slice ax0 (g0.length + T'.got.length) cx0, .slice e1 g1.length f1]⟩ :: (fb ++ (Bw ++ (BN0 ++ B1))))) X7 p (gotT T') q U') ∧ (L 3 = true → L 4 = false → ∃ X', Sub X7 X' ∧ S2C W w0 (⟨b12, 22, #[.int .i64 s0', .int .i64 s1']⟩ :: (⟨b13, 41, #[.slice ax0 (g0.length + T'.got.length) cx0, .slice e1 g1.length f1]⟩ :: (fb ++ (Bw ++ (BN0 ++ B1))))) X' p (gotT T') q (gotT U') ∧ MsgL w0 X' x.1 U'.got) ∧ (L 4 = true → ∃ X' B' us', Sub X7 X' ∧ (∃ ax cx, x.2 = .slice ax (g1.length + U'.got.length) cx) ∧ Row 34 1 x.2 (g1.length + U'.got.length) us' B' ∧ Msgs w0 X' us' (g1 ++ U'.got) ∧ S2C W w0 (⟨b12, 22, #[.int .i64 s0', .int .i64 s1']⟩ :: (⟨b13, 41, #[.slice ax0 (g0.length + T'.got.length) cx0, bif L 6 then x.2 else .slice e1 g1.length f1]⟩ :: (fb ++ (Bw ++ (BN0 ++ B'))))) X' p (gotT T') q (gotT U'))) (undef, undef) (by kernel_rfl) (by kernel_rfl) (by rfl) ⟨fun _ => HSc.out.drew, fun h => by simp at h, fun h => by simp at h⟩ ?_ ⟨?_, ?_, ?_, ?_, ?_, ?_, ?_, trivial⟩
            rotate_left
            · (intro L x W hW hC hL hd K hK; (try simp [depsB, Region.binds] at hd); (try simp only [Nat.reduceAdd] at hK hL); simp only [ovl, Array.getD_eq_getD_getElem?, List.getElem?_toArray, List.getElem?_cons_succ, List.getElem?_cons_zero, Option.getD_some, List.setIfInBounds_toArray, List.set_cons_zero, List.set_cons_succ]; (try simp only [hd, cond_true, cond_false]); go_simp; (have h := hK x W hW); simp only [ovl, Array.getD_eq_getD_getElem?, List.getElem?_toArray, List.getElem?_cons_succ, List.getElem?_cons_zero, Option.getD_some, List.setIfInBounds_toArray, List.set_cons_zero, List.set_cons_succ] at h; (try simp (decide := true) only [upd, hd, cond_true, cond_false, Bool.true_or, Bool.false_or, decide_true, decide_false] at h); exact h)
            · intro L x W hW hC hL hd K hK; (try simp [depsB, Region.binds] at hd); (try simp only [Nat.reduceAdd] at hK hL)
              (have h4 : L 4 = false := by cases hl : L 4 with | false => rfl | true => have hx := hC 4 _ rfl hl; simp [depsB, Region.binds, hL, hd] at hx); (replace hd := And.intro hd h4)
              simp only [ovl, Array.getD_eq_getD_getElem?, List.getElem?_toArray, List.getElem?_cons_succ, List.getElem?_cons_zero, Option.getD_some, List.setIfInBounds_toArray, List.set_cons_zero, List.set_cons_succ]; (try simp only [hd, cond_true, cond_false])
              have hb : HasBlk W b13 41 #[.slice ax0 (g0.length + T'.got.length) cx0, .slice e1 g1.length f1] := by
                cases h3 : L 3 with
                | false => exact (hW.1 h3).has (List.mem_cons_of_mem _ (List.mem_cons_self ..))
                | true => obtain ⟨X', -, s', -⟩ := hW.2.1 h3 h4; exact s'.has (List.mem_cons_of_mem _ (List.mem_cons_self ..))
              have c0 := hb.cell 1
              have l0 := hb.lt
              clear hb
              go_simp
              (have h := hK x W hW); simp only [ovl, Array.getD_eq_getD_getElem?, List.getElem?_toArray, List.getElem?_cons_succ, List.getElem?_cons_zero, Option.getD_some, List.setIfInBounds_toArray, List.set_cons_zero, List.set_cons_succ] at h; (try simp (decide := true) only [upd, hd, cond_true, cond_false, Bool.true_or, Bool.false_or, decide_true, decide_false] at h); exact h
            · (intro L x W hW hC hL hd K hK; (try simp [depsB, Region.binds] at hd); (try simp only [Nat.reduceAdd] at hK hL); simp only [ovl, Array.getD_eq_getD_getElem?, List.getElem?_toArray, List.getElem?_cons_succ, List.getElem?_cons_zero, Option.getD_some, List.setIfInBounds_toArray, List.set_cons_zero, List.set_cons_succ]; (try simp only [hd, cond_true, cond_false]); go_simp; (have h := hK x W hW); simp only [ovl, Array.getD_eq_getD_getElem?, List.getElem?_toArray, List.getElem?_cons_succ, List.getElem?_cons_zero, Option.getD_some, List.setIfInBounds_toArray, List.set_cons_zero, List.set_cons_succ] at h; (try simp (decide := true) only [upd, hd, cond_true, cond_false, Bool.true_or, Bool.false_or, decide_true, decide_false] at h); exact h)
            · intro L x W hW hC hL hd K hK; (try simp [depsB, Region.binds] at hd); (try simp only [Nat.reduceAdd] at hK hL)
              (have h4 : L 4 = false := by cases hl : L 4 with | false => rfl | true => have hx := hC 4 _ rfl hl; simp [depsB, Region.binds, hL, hd] at hx); (replace hd := And.intro hd h4)
              simp only [ovl, Array.getD_eq_getD_getElem?, List.getElem?_toArray, List.getElem?_cons_succ, List.getElem?_cons_zero, Option.getD_some, List.setIfInBounds_toArray, List.set_cons_zero, List.set_cons_succ]; (try simp only [hd, cond_true, cond_false])
              refine wp_call_in 21 (by rfl) (by kernel_rfl) #[ptr q] (by (simp only [List.map_toArray, List.map_cons, List.map_nil, Act.eval, Array.getD_eq_getD_getElem?, List.getElem?_toArray, List.getElem?_cons_succ, List.getElem?_cons_zero, Option.getD_some])) (((hW.1 hL).swap.got U'.got rfl).mono ?_)
              rintro e W4 ⟨v, X5, rfl, hs5, s5, m5⟩
              refine ⟨_, rfl, ?_⟩
              (have h := hK (v, x.2) W4 ⟨fun h => by simp [upd] at h, fun _ _ => ⟨X5, hs5, s5.swap, m5⟩, fun h => by simp [upd, h4] at h⟩); simp only [ovl, Array.getD_eq_getD_getElem?, List.getElem?_toArray, List.getElem?_cons_succ, List.getElem?_cons_zero, Option.getD_some, List.setIfInBounds_toArray, List.set_cons_zero, List.set_cons_succ] at h; (try simp (decide := true) only [upd, hd, cond_true, cond_false, Bool.true_or, Bool.false_or, decide_true, decide_false] at h); exact h
            · intro L x W hW hC hL hd K hK; (try simp [depsB, Region.binds] at hd); (try simp only [Nat.reduceAdd] at hK hL)
              have h3 : L 3 = true := by simp only [hd]
              obtain ⟨xv, xr⟩ := x
              have hW3 := hW.2.1 h3 hL
              clear hW
              simp only at hW3
              simp only [ovl, Array.getD_eq_getD_getElem?, List.getElem?_toArray, List.getElem?_cons_succ, List.getElem?_cons_zero, Option.getD_some, List.setIfInBounds_toArray, List.set_cons_zero, List.set_cons_succ]; (try simp only [hd, cond_true, cond_false])
              obtain ⟨X5, hs5, s5, m5⟩ := hW3
              obtain ⟨av, cv, rfl⟩ := m5.slice
              obtain ⟨Y5, O5, hX5, -⟩ := s5.ow
              obtain ⟨us5, hl5, hm5, hc5⟩ := m5.open_ O5 hX5
              have hgl : U'.got.length ≤ 1000000 := by have := HWU.out.got; omega
              have s6 : S2C W w0 (B1 ++ (⟨b12, 22, #[.int .i64 s0', .int .i64 s1']⟩ :: (⟨b13, 41, #[.slice ax0 (g0.length + T'.got.length) cx0, .slice e1 g1.length f1]⟩ :: (fb ++ (Bw ++ BN0))))) X5 p (gotT T') q (gotT U') := s5.permC (perm_cnt fun x => by simp only [cnt_append, cnt_cons, cnt_nil] <;> omega)
              refine s6.appendK (.tmp 173) (.tmp 175) 25 (by rfl) elt_msg (by rfl) HR1.out av _ cv us5 (by rfl) (by rw [hl5]; omega) m5.cap.2 hc5 hm5.one (by unfold maxLen; omega) (by omega) (g1.length + U'.got.length) rfl (us1 ++ us5) rfl (fun ao' cap' B' W7 R7 s7 => ?_)
              have h6 : L 6 = false := by
                cases h6 : L 6 with
                | false => rfl
                | true => have hx := hC 6 _ rfl h6; simp [depsB, Region.binds, hL] at hx
              have s8 : S2C W7 w0 (⟨b12, 22, #[.int .i64 s0', .int .i64 s1']⟩ :: (⟨b13, 41, #[.slice ax0 (g0.length + T'.got.length) cx0, .slice e1 g1.length f1]⟩ :: (fb ++ (Bw ++ (BN0 ++ B'))))) X5 p (gotT T') q (gotT U') := s7.permC (perm_cnt fun x => by simp only [cnt_append, cnt_cons, cnt_nil] <;> omega)
              (have h := hK (.slice av U'.got.length cv, .slice ao' (g1.length + U'.got.length) cap') W7 ⟨fun h => by simp [upd, h3] at h, fun _ h => by simp [upd] at h, fun _ => ⟨X5, B', _, hs5, ⟨_, _, rfl⟩, R7, (HM1.out.mono hs5).app hm5, by simpa [upd, h6] using s8⟩⟩); simp only [ovl, Array.getD_eq_getD_getElem?, List.getElem?_toArray, List.getElem?_cons_succ, List.getElem?_cons_zero, Option.getD_some, List.setIfInBounds_toArray, List.set_cons_zero, List.set_cons_succ] at h; (try simp (decide := true) only [upd, hd, cond_true, cond_false, Bool.true_or, Bool.false_or, decide_true, decide_false] at h); exact h
            · (intro L x W hW hC hL hd K hK; (try simp [depsB, Region.binds] at hd); (try simp only [Nat.reduceAdd] at hK hL); simp only [ovl, Array.getD_eq_getD_getElem?, List.getElem?_toArray, List.getElem?_cons_succ, List.getElem?_cons_zero, Option.getD_some, List.setIfInBounds_toArray, List.set_cons_zero, List.set_cons_succ]; (try simp only [hd, cond_true, cond_false]); go_simp; (have h := hK x W hW); simp only [ovl, Array.getD_eq_getD_getElem?, List.getElem?_toArray, List.getElem?_cons_succ, List.getElem?_cons_zero, Option.getD_some, List.setIfInBounds_toArray, List.set_cons_zero, List.set_cons_succ] at h; (try simp (decide := true) only [upd, hd, cond_true, cond_false, Bool.true_or, Bool.false_or, decide_true, decide_false] at h); exact h)
            · intro L x W hW hC hL hd K hK; (try simp [depsB, Region.binds] at hd); (try simp only [Nat.reduceAdd] at hK hL)
              have h4 : L 4 = true := by simp only [hd]
              obtain ⟨xv, xr⟩ := x
              have hW4 := hW.2.2 h4
              clear hW
              simp only [hL, cond_false] at hW4
              simp only [ovl, Array.getD_eq_getD_getElem?, List.getElem?_toArray, List.getElem?_cons_succ, List.getElem?_cons_zero, Option.getD_some, List.setIfInBounds_toArray, List.set_cons_zero, List.set_cons_succ]; (try simp only [hd, cond_true, cond_false])
              obtain ⟨X5, B5, us5, hs5, ⟨ax, cx, rfl⟩, R5, M5, s5⟩ := hW4
              have hb := s5.has (b := b13) (t := 41) (cs := #[.slice ax0 (g0.length + T'.got.length) cx0, .slice e1 g1.length f1]) (List.mem_cons_of_mem _ (List.mem_cons_self ..))
              have c0 := hb.cell 1
              have fz := hb.frozen 1
              have l0 := hb.lt
              clear hb
              have s6 : S2C W w0 (⟨b13, 41, #[.slice ax0 (g0.length + T'.got.length) cx0, .slice e1 g1.length f1]⟩ :: (⟨b12, 22, #[.int .i64 s0', .int .i64 s1']⟩ :: (fb ++ (Bw ++ (BN0 ++ B5))))) X5 p (gotT T') q (gotT U') := s5.permC (perm_cnt fun x => by simp only [cnt_append, cnt_cons, cnt_nil] <;> omega)
              have s7 := s6.set 1 (.slice ax (g1.length + U'.got.length) cx)
              have s8 : S2C (W.setCell ⟨b13, 1, none⟩ (.slice ax (g1.length + U'.got.length) cx)) w0 (⟨b12, 22, #[.int .i64 s0', .int .i64 s1']⟩ :: (⟨b13, 41, #[.slice ax0 (g0.length + T'.got.length) cx0, .slice ax (g1.length + U'.got.length) cx]⟩ :: (fb ++ (Bw ++ (BN0 ++ B5))))) X5 p (gotT T') q (gotT U') := by
                refine S2C.permC (C := (⟨b13, 41, #[.slice ax0 (g0.length + T'.got.length) cx0, .slice ax (g1.length + U'.got.length) cx]⟩ :: (⟨b12, 22, #[.int .i64 s0', .int .i64 s1']⟩ :: (fb ++ (Bw ++ (BN0 ++ B5)))))) ?_ (perm_cnt fun x => by simp only [cnt_append, cnt_cons, cnt_nil] <;> omega)
                simpa using s7
              clear s5 s6 s7
              go_simp
              (have h := hK (xv, .slice ax (g1.length + U'.got.length) cx) _ ⟨fun h => by simp [upd, hd] at h, fun _ h => by simp [upd, hd] at h, fun _ => ⟨X5, B5, us5, hs5, ⟨_, _, rfl⟩, R5, M5, by simpa [upd] using s8⟩⟩); simp only [ovl, Array.getD_eq_getD_getElem?, List.getElem?_toArray, List.getElem?_cons_succ, List.getElem?_cons_zero, Option.getD_some, List.setIfInBounds_toArray, List.set_cons_zero, List.set_cons_succ] at h; (try simp (decide := true) only [upd, hd, cond_true, cond_false, Bool.true_or, Bool.false_or, decide_true, decide_false] at h); exact h
            intro x W9 hW9
            simp only [ovl, cond_true, Array.getD_eq_getD_getElem?, List.getElem?_toArray, List.getElem?_cons_succ, List.getElem?_cons_zero, Option.getD_some, List.setIfInBounds_toArray, List.set_cons_zero, List.set_cons_succ]
            obtain ⟨xv, xr⟩ := x
            simp only [cond_true] at hW9
            obtain ⟨X8, BN1, un1, hs8, ⟨ax1, cx1, rfl⟩, RN1, MN1, sN1⟩ := hW9.2.2 trivial
            have HSN := Lib.hid sN1
            have HRN1 := Lib.hid RN1
            have HMN1 := Lib.hid MN1
            have Hs7 := Lib.hid hs7
            have Hs8 := Lib.hid hs8
            clear sN1 RN1 MN1 hs7 hs8 hW9
            go_wp2
            exact ⟨⟨n + 1, gotT T', gotT U', s0', s1', _, _, g0 ++ T'.got, g1 ++ U'.got, pk', by simp, by omega, by omega, ⟨X8, Bw, BN0, BN1, un0, un1, HSN.out, HRw.out, fun k hk => ((HMw.out k hk).mono Hs7.out).mono Hs8.out, by simpa using HRN0.out, HM0'.out.mono Hs8.out, by simpa using HRN1.out, HMN1.out⟩, HI.out.got0.got1, rfl, rfl⟩, by simp [intOf]; omega⟩
      · have hd0 : decide ((0 : Int) < (pk.length : Int)) = true := decide_eq_true (by omega)
        have hd0' : decide (0 < pk.length) = true := decide_eq_true (by omega)
        have hz : cutN dat pk.length < pk.length := Nat.mod_lt _ hp0
        have ez := cut_eq dat pk.length hp0 (by omega)
        generalize cutN dat pk.length = z at ez hz
        have ewk : IntKind.u64.wrap (pk.length : Int) = (pk.length : Int) := by simp [IntKind.wrap, IntKind.bits, IntKind.signed]; omega
        have hpn : ((pk.length : Int) == 0) = false := by rw [beq_eq_false_iff_ne]; omega
        obtain ⟨A4, D4, O4, -, -⟩ := HS.out
        have O5 : Ow wr w0 (Bw ++ (A4 ++ (D4 ++ ((⟨b12, 22, #[.int .i64 s0, .int .i64 s1]⟩ :: (⟨b13, 41, #[.slice e0 g0.length f0, .slice e1 g1.length f1]⟩ :: (fb ++ (B0 ++ B1)))) ++ X)))) := O4.perm (perm_cnt fun x => by simp only [cnt_append, cnt_cons, cnt_nil] <;> omega)
        obtain ⟨rw_, cw', ew, hcw', lw, hcl⟩ := HRw.out.openP O5.mem hp0
        cases ew
        clear O4 O5
        go_upto_block 2 with fail
        (try simp only [ewk])
        (try simp only [ez])
        go_cut [14, 18, 19, 20, 21] from 40 to 177 (fun vw v18 v19 v20 v21 wc => ∃ (T' U' : TS) (s0' s1' : Nat) (pk' : List PkV), PS w0 fb p q b12 b13 T' U' s0' s1' (.slice e0 g0.length f0) (.slice e1 g1.length f1) vw g0 g1 pk' wc ∧ PI T' U' s0' s1' g0 g1 pk' (n + 1))
        case first =>
          have HSa := Lib.hid (HS.out.alloc (.cells #[.int .i64 kd, .int .i64 dat] 87))
          clear HS
          rcases (by omega : kk = 0 ∨ kk = 1 ∨ kk = 2 ∨ kk = 3 ∨ kk = 4 ∨ kk = 5) with hkk | hkk | hkk | hkk | hkk | hkk
          · subst hkk
            have ezz : wrap64 ((IntKind.u64.wrap kd).tmod 6) = (0 : Int) := ez6'
            clear ez6'
            as_aux_lemma =>
              go_wp2_with fail
              refine (word_to 0 s0 (by omega) (by omega) _).mono ?_
              rintro e w5 ⟨v, rfl, hb5, hc5⟩
              have HS5 := Lib.hid (HSa.out.of_below hb5)
              obtain ⟨Y, OY, -, -⟩ := HSa.out.ow
              obtain ⟨NB, O5, M5⟩ := hc5.found' OY (Ext.of_below hb5)
              have hbs := (M5 w0).bsl O5 (fun z hz => List.mem_append_left _ hz)
              obtain ⟨av, cv, rfl⟩ := (M5 w0).slice
              have HB5 := Lib.hid hbs
              clear hb5 hc5 OY O5 M5 hbs
              obtain ⟨E, HE⟩ : ∃ E, Hid (sayE T (wdL 0 s0) = E) := ⟨_, rfl⟩
              obtain ⟨T', HT'⟩ : ∃ T', Hid (sayT T (wdL 0 s0) = T') := ⟨_, rfl⟩
              go_wp2_with fail
              refine (HS5.out.say _ _ HB5.out (HI.out.tT.mono (by omega)) E HE.out T' HT'.out).mono ?_
              rintro e w6 ⟨rfl, X6, hs6, s6'⟩
              have s6 := s6'
              have HS6 := Lib.hid s6
              have Hs6 := Lib.hid hs6
              have hb12 := s6.has (b := b12) (t := 22) (cs := #[.int .i64 s0, .int .i64 s1]) (List.mem_cons_self ..)
              have y0 := hb12.cell 0
              have y1 := hb12.cell 1
              have ly := hb12.lt
              have fy0 := hb12.frozen 0
              have fy1 := hb12.frozen 1
              clear s6 s6' hs6 hb12 HS5
              by_cases hE0 : E = 0
              · subst hE0
                have hi : PI T' U (s0 + 1) s1 g0 g1 pk (n + 1) := by rw [← HT'.out]; exact HI.out.say0 HE.out
                have HI2 := Lib.hid hi
                clear hi
                go_wp2_with fail
                go_meet
                have S7 : S2C (w6.setCell ⟨b12, 0, none⟩ (.int .i64 ((s0 : Int) + 1))) w0 (⟨b12, 22, #[.int .i64 ((s0 + 1 : Nat) : Int), .int .i64 s1]⟩ :: (⟨b13, 41, #[.slice e0 g0.length f0, .slice e1 g1.length f1]⟩ :: (fb ++ (Bw ++ (B0 ++ B1))))) X6 p T' q U := by
                  have := HS6.out.set 0 (.int .i64 ((s0 : Int) + 1))
                  simpa using this
                exact ⟨T', U, (s0 + 1), s1, pk, ⟨X6, Bw, B0, B1, us0, us1, S7, HRw.out, fun k hk => (HMw.out k hk).mono Hs6.out, HR0.out, HM0.out.mono Hs6.out, HR1.out, HM1.out.mono Hs6.out⟩, HI2.out⟩
              · have hE1 : ((E : Int) == 0) = false := by rw [beq_eq_false_iff_ne]; omega
                have hT : T' = T := by rw [← HT'.out]; exact say_not (by rw [HE.out]; exact hE0)
                subst hT
                go_wp2_with fail
                go_meet
                exact ⟨_, _, s0, s1, pk, ⟨X6, Bw, B0, B1, us0, us1, HS6.out, HRw.out, fun k hk => (HMw.out k hk).mono Hs6.out, HR0.out, HM0.out.mono Hs6.out, HR1.out, HM1.out.mono Hs6.out⟩, HI.out.more⟩
          · subst hkk
            have ezz : wrap64 ((IntKind.u64.wrap kd).tmod 6) = (1 : Int) := ez6'
            clear ez6'
            as_aux_lemma =>
              go_wp2_with fail
              refine (word_to 1 s1 (by omega) (by omega) _).mono ?_
              rintro e w5 ⟨v, rfl, hb5, hc5⟩
              have HS5 := Lib.hid (HSa.out.of_below hb5)
              obtain ⟨Y, OY, -, -⟩ := HSa.out.ow
              obtain ⟨NB, O5, M5⟩ := hc5.found' OY (Ext.of_below hb5)
              have hbs := (M5 w0).bsl O5 (fun z hz => List.mem_append_left _ hz)
              obtain ⟨av, cv, rfl⟩ := (M5 w0).slice
              have HB5 := Lib.hid hbs
              clear hb5 hc5 OY O5 M5 hbs
              obtain ⟨E, HE⟩ : ∃ E, Hid (sayE U (wdL 1 s1) = E) := ⟨_, rfl⟩
              obtain ⟨T', HT'⟩ : ∃ T', Hid (sayT U (wdL 1 s1) = T') := ⟨_, rfl⟩
              go_wp2_with fail
              refine (HS5.out.swap.say _ _ HB5.out (HI.out.tU.mono (by omega)) E HE.out T' HT'.out).mono ?_
              rintro e w6 ⟨rfl, X6, hs6, s6'⟩
              have s6 := s6'.swap
              have HS6 := Lib.hid s6
              have Hs6 := Lib.hid hs6
              have hb12 := s6.has (b := b12) (t := 22) (cs := #[.int .i64 s0, .int .i64 s1]) (List.mem_cons_self ..)
              have y0 := hb12.cell 0
              have y1 := hb12.cell 1
              have ly := hb12.lt
              have fy0 := hb12.frozen 0
              have fy1 := hb12.frozen 1
              clear s6 s6' hs6 hb12 HS5
              by_cases hE0 : E = 0
              · subst hE0
                have hi : PI T T' s0 (s1 + 1) g0 g1 pk (n + 1) := by rw [← HT'.out]; exact HI.out.say1 HE.out
                have HI2 := Lib.hid hi
                clear hi
                go_wp2_with fail
                go_meet
                have S7 : S2C (w6.setCell ⟨b12, 1, none⟩ (.int .i64 ((s1 : Int) + 1))) w0 (⟨b12, 22, #[.int .i64 s0, .int .i64 ((s1 + 1 : Nat) : Int)]⟩ :: (⟨b13, 41, #[.slice e0 g0.length f0, .slice e1 g1.length f1]⟩ :: (fb ++ (Bw ++ (B0 ++ B1))))) X6 p T q T' := by
                  have := HS6.out.set 1 (.int .i64 ((s1 : Int) + 1))
                  simpa using this
                exact ⟨T, T', s0, (s1 + 1), pk, ⟨X6, Bw, B0, B1, us0, us1, S7, HRw.out, fun k hk => (HMw.out k hk).mono Hs6.out, HR0.out, HM0.out.mono Hs6.out, HR1.out, HM1.out.mono Hs6.out⟩, HI2.out⟩
              · have hE1 : ((E : Int) == 0) = false := by rw [beq_eq_false_iff_ne]; omega
                have hT : T' = U := by rw [← HT'.out]; exact say_not (by rw [HE.out]; exact hE0)
                subst hT
                go_wp2_with fail
                go_meet
                exact ⟨_, _, s0, s1, pk, ⟨X6, Bw, B0, B1, us0, us1, HS6.out, HRw.out, fun k hk => (HMw.out k hk).mono Hs6.out, HR0.out, HM0.out.mono Hs6.out, HR1.out, HM1.out.mono Hs6.out⟩, HI.out.more⟩
          · subst hkk
            have ezz : wrap64 ((IntKind.u64.wrap kd).tmod 6) = (2 : Int) := ez6'
            clear ez6'
            as_aux_lemma =>
              cases hdue : dueT T n with
              | false =>
                go_wp2_with fail
                refine (HSa.out.tickNo n (by omega) (HI.out.tT.mono (by omega)) hdue).mono ?_
                rintro e w6 ⟨rfl, s6⟩
                have HS6 := Lib.hid (s6.alloc (.cells #[.int .i64 0, .slice none 0 0, .int .i64 0] 36))
                clear s6
                go_wp2_with fail
                go_meet
                exact ⟨T, U, s0, s1, pk, ⟨X, Bw, B0, B1, us0, us1, HS6.out, HRw.out, HMw.out, HR0.out, HM0.out.mono (Sub.refl _), HR1.out, HM1.out.mono (Sub.refl _)⟩, HI.out.more⟩
              | true =>
                obtain ⟨ms, HMS⟩ : ∃ ms, Hid (T.waits = ms) := ⟨_, rfl⟩
                obtain ⟨fi, HFI⟩ : ∃ fi, Hid (T.said - T.waits.length = fi) := ⟨_, rfl⟩
                obtain ⟨hd, HHD⟩ : ∃ hd, Hid (T.heard = hd) := ⟨_, rfl⟩
                obtain ⟨T', HT'⟩ : ∃ T', Hid (tickT T n = T') := ⟨_, rfl⟩
                go_wp2_with fail
                refine (HSa.out.tickYes n (by omega) (HI.out.tT.mono (by omega)) hdue fi hd HFI.out HHD.out ms HMS.out T' HT'.out).mono ?_
                rintro e w6 ⟨u, X6, rfl, hs6, s6, m6⟩
                obtain ⟨au, cu, rfl⟩ := m6.slice
                have HS6 : Hid (S2C (w6.alloc (.cells #[.int .i64 fi, .slice au ms.length cu, .int .i64 hd] 36)) w0 (Bw ++ (⟨b12, 22, #[.int .i64 s0, .int .i64 s1]⟩ :: (⟨b13, 41, #[.slice e0 g0.length f0, .slice e1 g1.length f1]⟩ :: (fb ++ (B0 ++ B1))))) X6 p T' q U) := ((s6).alloc _).permC (perm_cnt fun x => by simp only [cnt_append, cnt_cons, cnt_nil] <;> omega)
                have Hs6 := Lib.hid hs6
                have Hm6 := Lib.hid m6
                have HI2 : Hid (PI T' U s0 s1 g0 g1 (pk ++ [(⟨fi, ms, hd, .slice au ms.length cu, true⟩ : PkV)]) (n + 1)) := by
                  have := HI.out.tick0 (by omega) (.slice au ms.length cu)
                  rw [HT'.out, HFI.out, HMS.out, HHD.out] at this
                  exact this
                clear s6 hs6 m6
                go_wp2_with (at_builtin; refine HS6.out.appendNew rfl (.tmp 103) (.tmp 106) 85 rfl elt_sent (by rfl) HRw.out #[.int .i64 fi, .slice au ms.length cu, .int .i64 hd, .bool true] _ _ 1 1 (by rfl) (by simp) (by rfl) (by simp [Value.oneCell']) (by unfold maxLen; omega) (by omega) (pk.length + 1) rfl (wayc (pk ++ [(⟨fi, ms, hd, .slice au ms.length cu, true⟩ : PkV)])) (by rw [wayc_app]; rfl) (fun ao' cap' B' w7 R7 s7 => ?_); (have HR7 := Lib.hid R7); (have HS7 : Hid (S2C w7 w0 (⟨b12, 22, #[.int .i64 s0, .int .i64 s1]⟩ :: (⟨b13, 41, #[.slice e0 g0.length f0, .slice e1 g1.length f1]⟩ :: (fb ++ (B' ++ (B0 ++ B1))))) X6 p T' q U) := s7.permC (perm_cnt fun x => by simp only [cnt_append, cnt_cons, cnt_nil] <;> omega)); clear R7 s7)
                go_meet
                have hRw' : Row 89 4 (.slice ao' (pk.length + 1) cap') (pk ++ [(⟨fi, ms, hd, .slice au ms.length cu, true⟩ : PkV)]).length (wayc (pk ++ [(⟨fi, ms, hd, .slice au ms.length cu, true⟩ : PkV)])) B' := by simpa using HR7.out
                have hMw' : ∀ k ∈ pk ++ [(⟨fi, ms, hd, .slice au ms.length cu, true⟩ : PkV)], MsgL w0 X6 k.v k.ms := fun k hk => by
                  rcases List.mem_append.1 hk with hk | hk
                  · exact (HMw.out k hk).mono Hs6.out
                  · obtain rfl := List.mem_singleton.1 hk
                    exact Hm6.out
                exact ⟨T', U, s0, s1, (pk ++ [(⟨fi, ms, hd, .slice au ms.length cu, true⟩ : PkV)]), ⟨X6, B', B0, B1, us0, us1, HS7.out, hRw', hMw', HR0.out, HM0.out.mono Hs6.out, HR1.out, HM1.out.mono Hs6.out⟩, HI2.out⟩
          · subst hkk
            have ezz : wrap64 ((IntKind.u64.wrap kd).tmod 6) = (3 : Int) := ez6'
            clear ez6'
            as_aux_lemma =>
              cases hdue : dueT U n with
              | false =>
                go_wp2_with fail
                refine (HSa.out.swap.tickNo n (by omega) (HI.out.tU.mono (by omega)) hdue).mono ?_
                rintro e w6 ⟨rfl, s6⟩
                have HS6 := Lib.hid (s6.swap.alloc (.cells #[.int .i64 0, .slice none 0 0, .int .i64 0] 36))
                clear s6
                go_wp2_with fail
                go_meet
                exact ⟨T, U, s0, s1, pk, ⟨X, Bw, B0, B1, us0, us1, HS6.out, HRw.out, HMw.out, HR0.out, HM0.out.mono (Sub.refl _), HR1.out, HM1.out.mono (Sub.refl _)⟩, HI.out.more⟩
              | true =>
                obtain ⟨ms, HMS⟩ : ∃ ms, Hid (U.waits = ms) := ⟨_, rfl⟩
                obtain ⟨fi, HFI⟩ : ∃ fi, Hid (U.said - U.waits.length = fi) := ⟨_, rfl⟩
                obtain ⟨hd, HHD⟩ : ∃ hd, Hid (U.heard = hd) := ⟨_, rfl⟩
                obtain ⟨T', HT'⟩ : ∃ T', Hid (tickT U n = T') := ⟨_, rfl⟩
                go_wp2_with fail
                refine (HSa.out.swap.tickYes n (by omega) (HI.out.tU.mono (by omega)) hdue fi hd HFI.out HHD.out ms HMS.out T' HT'.out).mono ?_
                rintro e w6 ⟨u, X6, rfl, hs6, s6, m6⟩
                obtain ⟨au, cu, rfl⟩ := m6.slice
                have HS6 : Hid (S2C (w6.alloc (.cells #[.int .i64 fi, .slice au ms.length cu, .int .i64 hd] 36)) w0 (Bw ++ (⟨b12, 22, #[.int .i64 s0, .int .i64 s1]⟩ :: (⟨b13, 41, #[.slice e0 g0.length f0, .slice e1 g1.length f1]⟩ :: (fb ++ (B0 ++ B1))))) X6 p T q T') := ((s6.swap).alloc _).permC (perm_cnt fun x => by simp only [cnt_append, cnt_cons, cnt_nil] <;> omega)
                have Hs6 := Lib.hid hs6
                have Hm6 := Lib.hid m6
                have HI2 : Hid (PI T T' s0 s1 g0 g1 (pk ++ [(⟨fi, ms, hd, .slice au ms.length cu, false⟩ : PkV)]) (n + 1)) := by
                  have := HI.out.tick1 (by omega) (.slice au ms.length cu)
                  rw [HT'.out, HFI.out, HMS.out, HHD.out] at this
                  exact this
                clear s6 hs6 m6
                go_wp2_with (at_builtin; refine HS6.out.appendNew rfl (.tmp 117) (.tmp 120) 85 rfl elt_sent (by rfl) HRw.out #[.int .i64 fi, .slice au ms.length cu, .int .i64 hd, .bool false] _ _ 1 1 (by rfl) (by simp) (by rfl) (by simp [Value.oneCell']) (by unfold maxLen; omega) (by omega) (pk.length + 1) rfl (wayc (pk ++ [(⟨fi, ms, hd, .slice au ms.length cu, false⟩ : PkV)])) (by rw [wayc_app]; rfl) (fun ao' cap' B' w7 R7 s7 => ?_); (have HR7 := Lib.hid R7); (have HS7 : Hid (S2C w7 w0 (⟨b12, 22, #[.int .i64 s0, .int .i64 s1]⟩ :: (⟨b13, 41, #[.slice e0 g0.length f0, .slice e1 g1.length f1]⟩ :: (fb ++ (B' ++ (B0 ++ B1))))) X6 p T q T') := s7.permC (perm_cnt fun x => by simp only [cnt_append, cnt_cons, cnt_nil] <;> omega)); clear R7 s7)
                go_meet
                have hRw' : Row 89 4 (.slice ao' (pk.length + 1) cap') (pk ++ [(⟨fi, ms, hd, .slice au ms.length cu, false⟩ : PkV)]).length (wayc (pk ++ [(⟨fi, ms, hd, .slice au ms.length cu, false⟩ : PkV)])) B' := by simpa using HR7.out
                have hMw' : ∀ k ∈ pk ++ [(⟨fi, ms, hd, .slice au ms.length cu, false⟩ : PkV)], MsgL w0 X6 k.v k.ms := fun k hk => by
                  rcases List.mem_append.1 hk with hk | hk
                  · exact (HMw.out k hk).mono Hs6.out
                  · obtain rfl := List.mem_singleton.1 hk
                    exact Hm6.out
                exact ⟨T, T', s0, s1, (pk ++ [(⟨fi, ms, hd, .slice au ms.length cu, false⟩ : PkV)]), ⟨X6, B', B0, B1, us0, us1, HS7.out, hRw', hMw', HR0.out, HM0.out.mono Hs6.out, HR1.out, HM1.out.mono Hs6.out⟩, HI2.out⟩
          · subst hkk
            have ezz : wrap64 ((IntKind.u64.wrap kd).tmod 6) = (4 : Int) := ez6'
            clear ez6'
            as_aux_lemma =>
              obtain ⟨kz, hkz⟩ : ∃ kz, pk[z]? = some kz := ⟨pk[z], List.getElem?_eq_getElem hz⟩
              have hkm : kz ∈ pk := List.mem_of_getElem? hkz
              have w0' := hcl (z * 4 + 0) _ (wayc_get pk z 0 kz hkz _ rfl)
              have w1' := hcl (z * 4 + 1) _ (wayc_get pk z 1 kz hkz _ rfl)
              have w2' := hcl (z * 4 + 2) _ (wayc_get pk z 2 kz hkz _ rfl)
              have w3 := hcl (z * 4 + 3) _ (wayc_get pk z 3 kz hkz _ rfl)
              rw [Nat.add_zero] at w0'
              obtain ⟨av, cv, ev⟩ := (HMw.out kz hkm).slice
              have HMk : Hid (MsgL w0 X (.slice av kz.ms.length cv) kz.ms) := by rw [← ev]; exact HMw.out kz hkm
              rw [ev] at w1'
              clear hcl
              cases hko : kz.other with
              | true =>
                rw [hko] at w3
                have hI := HI.out.hear1 kz hkm hko
                have hst := ((HI.out.pks kz hkm).1 hko).stop
                obtain ⟨T', HT'⟩ : ∃ T', Hid (hearT U kz.fi kz.ms kz.he = T') := ⟨_, rfl⟩
                rw [HT'.out] at hI
                have HI2 := Lib.hid hI
                have hfi : kz.fi ≤ 1000 := by omega
                clear hI hst
                go_wp2_with fail
                refine (HSa.out.swap.hear kz.fi kz.he _ kz.ms HMk.out (by omega) (HI.out.tU.mono (by omega)) HI2.out.2 T' HT'.out).mono ?_
                rintro e w6 ⟨c, X6, rfl, hs6, s6⟩
                have HS6 := Lib.hid (s6.swap)
                have Hs6 := Lib.hid hs6
                clear s6 hs6
                go_wp2_with fail
                go_meet
                exact ⟨T, T', s0, s1, pk, ⟨X6, Bw, B0, B1, us0, us1, HS6.out, HRw.out, fun k hk => (HMw.out k hk).mono Hs6.out, HR0.out, HM0.out.mono Hs6.out, HR1.out, HM1.out.mono Hs6.out⟩, HI2.out.1⟩
              | false =>
                rw [hko] at w3
                have hI := HI.out.hear0 kz hkm hko
                have hst := ((HI.out.pks kz hkm).2 hko).stop
                obtain ⟨T', HT'⟩ : ∃ T', Hid (hearT T kz.fi kz.ms kz.he = T') := ⟨_, rfl⟩
                rw [HT'.out] at hI
                have HI2 := Lib.hid hI
                have hfi : kz.fi ≤ 1000 := by omega
                clear hI hst
                go_wp2_with fail
                refine (HSa.out.hear kz.fi kz.he _ kz.ms HMk.out (by omega) (HI.out.tT.mono (by omega)) HI2.out.2 T' HT'.out).mono ?_
                rintro e w6 ⟨c, X6, rfl, hs6, s6⟩
                have HS6 := Lib.hid (s6)
                have Hs6 := Lib.hid hs6
                clear s6 hs6
                go_wp2_with fail
                go_meet
                exact ⟨T', U, s0, s1, pk, ⟨X6, Bw, B0, B1, us0, us1, HS6.out, HRw.out, fun k hk => (HMw.out k hk).mono Hs6.out, HR0.out, HM0.out.mono Hs6.out, HR1.out, HM1.out.mono Hs6.out⟩, HI2.out.1⟩
          · subst hkk
            have ezz : wrap64 ((IntKind.u64.wrap kd).tmod 6) = (5 : Int) := ez6'
            clear ez6'
            as_aux_lemma =>
              have hz1 : (0 : Int) ≤ (z : Int) + 1 := by omega
              have hz2 : (z : Int) + 1 ≤ (pk.length : Int) := by omega
              have hzc : z ≤ cw := by omega
              have hwz : IntKind.i64.wrap ((z : Int) + 1) = (z : Int) + 1 := by rw [IntKind.wrap_i64]; omega
              obtain ⟨A8, hA8⟩ : ∃ A, (if cw = z + 1 then (some ⟨rw_, 0, none⟩ : Option Addr) else some ⟨rw_, (z + 1) * 4, none⟩) = A := ⟨_, rfl⟩
              go_wp2_with fail
              refine wp_region_ov (fun L (x : Nat × Value × Value) => [(L 0, 156, .slice (some ⟨x.1, 0, none⟩) 0 0), (L 1, 157, .slice (some ⟨rw_, 0, none⟩) pk.length cw), (L 2, 158, .int .i64 z), (L 3, 159, .slice (some ⟨rw_, 0, none⟩) z cw), (L 4, 160, x.2.1), (L 5, 161, .slice (some ⟨rw_, 0, none⟩) pk.length cw), (L 6, 162, .int .i64 z), (L 7, 163, .int .i64 ((z : Int) + 1)), (L 8, 164, .slice A8 (pk.length - (z + 1)) (cw - (z + 1))), (L 9, 165, x.2.2), (L 10, 14, x.2.2)])
                (fun L x W => (L 0 = false → S2C W w0 (⟨b12, 22, #[.int .i64 s0, .int .i64 s1]⟩ :: (⟨b13, 41, #[.slice e0 g0.length f0, .slice e1 g1.length f1]⟩ :: (fb ++ (Bw ++ (B0 ++ B1))))) X p T q U) ∧ (L 0 = true → L 4 = false → S2C W w0 (⟨x.1, 89, #[]⟩ :: (⟨b12, 22, #[.int .i64 s0, .int .i64 s1]⟩ :: (⟨b13, 41, #[.slice e0 g0.length f0, .slice e1 g1.length f1]⟩ :: (fb ++ (Bw ++ (B0 ++ B1)))))) X p T q U) ∧ (L 4 = true → L 9 = false → ∃ B', (∃ ax cx, x.2.1 = .slice ax z cx) ∧ Row 89 4 x.2.1 z (wayc (pk.take z)) B' ∧ S2C W w0 (B' ++ (⟨b12, 22, #[.int .i64 s0, .int .i64 s1]⟩ :: (⟨b13, 41, #[.slice e0 g0.length f0, .slice e1 g1.length f1]⟩ :: (fb ++ (Bw ++ (B0 ++ B1)))))) X p T q U) ∧ (L 9 = true → ∃ B', (∃ ax cx, x.2.2 = .slice ax (pk.length - 1) cx) ∧ Row 89 4 x.2.2 (pk.length - 1) (wayc (pk.take z ++ pk.drop (z + 1))) B' ∧ S2C W w0 (B' ++ (⟨b12, 22, #[.int .i64 s0, .int .i64 s1]⟩ :: (⟨b13, 41, #[.slice e0 g0.length f0, .slice e1 g1.length f1]⟩ :: (fb ++ (Bw ++ (B0 ++ B1)))))) X p T q U)) (0, undef, undef) (by kernel_rfl) (by kernel_rfl) (by rfl) ⟨fun _ => HSa.out.drew, fun h => by simp at h, fun h => by simp at h, fun h => by simp at h⟩ ?_ ⟨?_, ?_, ?_, ?_, ?_, ?_, ?_, ?_, ?_, ?_, ?_, trivial⟩
              rotate_left
              · intro L x W hW hC hL hd K hK; (try simp [depsB, Region.binds] at hd); (try simp only [Nat.reduceAdd] at hK hL)
                (have h4 : L 4 = false := by cases hl : L 4 with | false => rfl | true => have hx := hC 4 _ rfl hl; simp [depsB, Region.binds, hL, hd] at hx); (replace hd := And.intro hd h4); (have h9 : L 9 = false := by cases hl : L 9 with | false => rfl | true => have hx := hC 9 _ rfl hl; simp [depsB, Region.binds, hL, hd] at hx); (replace hd := And.intro hd h9)
                simp only [ovl, Array.getD_eq_getD_getElem?, List.getElem?_toArray, List.getElem?_cons_succ, List.getElem?_cons_zero, Option.getD_some, List.setIfInBounds_toArray, List.set_cons_zero, List.set_cons_succ]; (try simp only [hd, cond_true, cond_false])
                refine wp_buildSlice0 elt_sent (by rfl) ?_
                (have h := hK (W.heap.size, x.2) _ ⟨fun h => by simp [upd] at h, fun _ _ => (hW.1 hL).park rfl, fun h => by simp [upd, h4] at h, fun h => by simp [upd, h9] at h⟩); simp only [ovl, Array.getD_eq_getD_getElem?, List.getElem?_toArray, List.getElem?_cons_succ, List.getElem?_cons_zero, Option.getD_some, List.setIfInBounds_toArray, List.set_cons_zero, List.set_cons_succ] at h; (try simp (decide := true) only [upd, hd, cond_true, cond_false, Bool.true_or, Bool.false_or, decide_true, decide_false] at h); exact h
              · (intro L x W hW hC hL hd K hK; (try simp [depsB, Region.binds] at hd); (try simp only [Nat.reduceAdd] at hK hL); (have h10 : L 10 = false := by cases hl : L 10 with | false => rfl | true => have hx := hC 10 _ rfl hl; simp [depsB, Region.binds, hL, hd] at hx); (replace hd := And.intro hd h10); simp only [ovl, Array.getD_eq_getD_getElem?, List.getElem?_toArray, List.getElem?_cons_succ, List.getElem?_cons_zero, Option.getD_some, List.setIfInBounds_toArray, List.set_cons_zero, List.set_cons_succ]; (try simp only [hd, cond_true, cond_false]); go_simp; (have h := hK x W hW); simp only [ovl, Array.getD_eq_getD_getElem?, List.getElem?_toArray, List.getElem?_cons_succ, List.getElem?_cons_zero, Option.getD_some, List.setIfInBounds_toArray, List.set_cons_zero, List.set_cons_succ] at h; (try simp (decide := true) only [upd, hd, cond_true, cond_false, Bool.true_or, Bool.false_or, decide_true, decide_false] at h); exact h)
              iterate 2 (· (intro L x W hW hC hL hd K hK; (try simp [depsB, Region.binds] at hd); (try simp only [Nat.reduceAdd] at hK hL); simp only [ovl, Array.getD_eq_getD_getElem?, List.getElem?_toArray, List.getElem?_cons_succ, List.getElem?_cons_zero, Option.getD_some, List.setIfInBounds_toArray, List.set_cons_zero, List.set_cons_succ]; (try simp only [hd, cond_true, cond_false]); go_simp; (have h := hK x W hW); simp only [ovl, Array.getD_eq_getD_getElem?, List.getElem?_toArray, List.getElem?_cons_succ, List.getElem?_cons_zero, Option.getD_some, List.setIfInBounds_toArray, List.set_cons_zero, List.set_cons_succ] at h; (try simp (decide := true) only [upd, hd, cond_true, cond_false, Bool.true_or, Bool.false_or, decide_true, decide_false] at h); exact h))
              · intro L x W hW hC hL hd K hK; (try simp [depsB, Region.binds] at hd); (try simp only [Nat.reduceAdd] at hK hL)
                (have h9 : L 9 = false := by cases hl : L 9 with | false => rfl | true => have hx := hC 9 _ rfl hl; simp [depsB, Region.binds, hL, hd] at hx); (replace hd := And.intro hd h9)
                have h0 : L 0 = true := by simp only [hd]
                simp only [ovl, Array.getD_eq_getD_getElem?, List.getElem?_toArray, List.getElem?_cons_succ, List.getElem?_cons_zero, Option.getD_some, List.setIfInBounds_toArray, List.set_cons_zero, List.set_cons_succ]; (try simp only [hd, cond_true, cond_false])
                have s5 := hW.2.1 h0 hL
                obtain ⟨A5, D5, O5, -, -⟩ := s5
                have O6 : Ow W w0 (Bw ++ (A5 ++ (D5 ++ (⟨x.1, 89, #[]⟩ :: ((⟨b12, 22, #[.int .i64 s0, .int .i64 s1]⟩ :: (⟨b13, 41, #[.slice e0 g0.length f0, .slice e1 g1.length f1]⟩ :: (fb ++ (B0 ++ B1)))) ++ X))))) := O5.perm (perm_cnt fun x => by simp only [cnt_append, cnt_cons, cnt_nil] <;> omega)
                obtain ⟨r6, c6, e6, -, -, hcl6⟩ := HRw.out.openP O6.mem hp0
                cases e6
                refine S2C.appendK (B := [⟨x.1, 89, #[]⟩]) (C := (⟨b12, 22, #[.int .i64 s0, .int .i64 s1]⟩ :: (⟨b13, 41, #[.slice e0 g0.length f0, .slice e1 g1.length f1]⟩ :: (fb ++ (Bw ++ (B0 ++ B1)))))) (X := X) (p := p) (q := q) (T := T) (U := U) (hW.2.1 h0 hL) (.tmp 156) (.tmp 159) 85 (by rfl) elt_sent (by rfl) (Row.empty 89 4 x.1) (some ⟨rw_, 0, none⟩) z cw (wayc (pk.take z)) (by rfl) (by rw [wayc_len]; simp; omega) (by simp) (fun ad had j u hj => ?_) (wayc_one fun k hk => (HMw.out k (List.mem_of_mem_take hk)).oneCell) (by unfold maxLen; omega) (by omega) z (by omega) (wayc (pk.take z)) rfl (fun ao' cap' B' W7 R7 s7 => ?_)
                · cases had
                  rw [add_plain', Nat.zero_add]
                  refine hcl6 j u ?_
                  rw [← wayc_take, List.getElem?_take] at hj
                  split at hj
                  · exact hj
                  · cases hj
                (have h := hK (x.1, .slice ao' z cap', x.2.2) W7 ⟨fun h => by simp [upd, h0] at h, fun _ h => by simp [upd] at h, fun _ _ => ⟨B', ⟨_, _, rfl⟩, R7, s7⟩, fun h => by simp [upd, h9] at h⟩); simp only [ovl, Array.getD_eq_getD_getElem?, List.getElem?_toArray, List.getElem?_cons_succ, List.getElem?_cons_zero, Option.getD_some, List.setIfInBounds_toArray, List.set_cons_zero, List.set_cons_succ] at h; (try simp (decide := true) only [upd, hd, cond_true, cond_false, Bool.true_or, Bool.false_or, decide_true, decide_false] at h); exact h
              · (intro L x W hW hC hL hd K hK; (try simp [depsB, Region.binds] at hd); (try simp only [Nat.reduceAdd] at hK hL); (have h10 : L 10 = false := by cases hl : L 10 with | false => rfl | true => have hx := hC 10 _ rfl hl; simp [depsB, Region.binds, hL, hd] at hx); (replace hd := And.intro hd h10); simp only [ovl, Array.getD_eq_getD_getElem?, List.getElem?_toArray, List.getElem?_cons_succ, List.getElem?_cons_zero, Option.getD_some, List.setIfInBounds_toArray, List.set_cons_zero, List.set_cons_succ]; (try simp only [hd, cond_true, cond_false]); go_simp; (have h := hK x W hW); simp only [ovl, Array.getD_eq_getD_getElem?, List.getElem?_toArray, List.getElem?_cons_succ, List.getElem?_cons_zero, Option.getD_some, List.setIfInBounds_toArray, List.set_cons_zero, List.set_cons_succ] at h; (try simp (decide := true) only [upd, hd, cond_true, cond_false, Bool.true_or, Bool.false_or, decide_true, decide_false] at h); exact h)
              iterate 3 (· (intro L x W hW hC hL hd K hK; (try simp [depsB, Region.binds] at hd); (try simp only [Nat.reduceAdd] at hK hL); simp only [ovl, Array.getD_eq_getD_getElem?, List.getElem?_toArray, List.getElem?_cons_succ, List.getElem?_cons_zero, Option.getD_some, List.setIfInBounds_toArray, List.set_cons_zero, List.set_cons_succ]; (try simp only [hd, cond_true, cond_false]); go_simp; (have h := hK x W hW); simp only [ovl, Array.getD_eq_getD_getElem?, List.getElem?_toArray, List.getElem?_cons_succ, List.getElem?_cons_zero, Option.getD_some, List.setIfInBounds_toArray, List.set_cons_zero, List.set_cons_succ] at h; (try simp (decide := true) only [upd, hd, cond_true, cond_false, Bool.true_or, Bool.false_or, decide_true, decide_false] at h); exact h))
              · intro L x W hW hC hL hd K hK; (try simp [depsB, Region.binds] at hd); (try simp only [Nat.reduceAdd] at hK hL)
                have h4 : L 4 = true := by simp only [hd]
                (have h10 : L 10 = false := by cases hl : L 10 with | false => rfl | true => have hx := hC 10 _ rfl hl; simp [depsB, Region.binds, hL, hd] at hx); (replace hd := And.intro hd h10)
                have h0 : L 0 = true := by have hx := hC 4 _ rfl h4; simp [depsB, Region.binds] at hx; exact hx.1
                obtain ⟨xb, xv, xr⟩ := x
                have hW5 := hW.2.2.1 h4 hL
                clear hW
                simp only at hW5
                simp only [ovl, Array.getD_eq_getD_getElem?, List.getElem?_toArray, List.getElem?_cons_succ, List.getElem?_cons_zero, Option.getD_some, List.setIfInBounds_toArray, List.set_cons_zero, List.set_cons_succ]; (try simp only [hd, cond_true, cond_false])
                obtain ⟨B5, ⟨a5, c5, rfl⟩, R5, s5⟩ := hW5
                obtain ⟨A5, D5, O5, -, -⟩ := id s5
                have O6 : Ow W w0 (Bw ++ (A5 ++ (D5 ++ (B5 ++ ((⟨b12, 22, #[.int .i64 s0, .int .i64 s1]⟩ :: (⟨b13, 41, #[.slice e0 g0.length f0, .slice e1 g1.length f1]⟩ :: (fb ++ (B0 ++ B1)))) ++ X))))) := O5.perm (perm_cnt fun x => by simp only [cnt_append, cnt_cons, cnt_nil] <;> omega)
                obtain ⟨r6, c6, e6, -, -, hcl6⟩ := HRw.out.openP O6.mem hp0
                cases e6
                refine s5.appendK (.tmp 160) (.tmp 164) 85 (by rfl) elt_sent (by rfl) R5 A8 (pk.length - (z + 1)) (cw - (z + 1)) (wayc (pk.drop (z + 1))) (by rfl) (by rw [wayc_len]; simp) (fun h => ?_) (fun ad had j u hj => ?_) (wayc_one fun k hk => (HMw.out k (List.mem_of_mem_drop hk)).oneCell) (by unfold maxLen; omega) (by omega) (pk.length - 1) (by omega) (wayc (pk.take z ++ pk.drop (z + 1))) (by rw [wayc_app]) (fun ao' cap' B' W7 R7 s7 => ?_)
                · rw [← hA8] at h; split at h <;> cases h
                · rw [← hA8] at had
                  by_cases hcz : cw = z + 1
                  · rw [List.drop_eq_nil_of_le (by omega)] at hj
                    simp [wayc] at hj
                  · rw [if_neg hcz] at had
                    cases had
                    rw [add_plain']
                    refine hcl6 _ u ?_
                    rw [← wayc_drop, List.getElem?_drop] at hj
                    exact hj
                (have h := hK (xb, .slice a5 z c5, .slice ao' (pk.length - 1) cap') W7 ⟨fun h => by simp [upd, h0] at h, fun _ h => by simp [upd, h4] at h, fun _ h => by simp [upd] at h, fun _ => ⟨B', ⟨_, _, rfl⟩, R7, s7⟩⟩); simp only [ovl, Array.getD_eq_getD_getElem?, List.getElem?_toArray, List.getElem?_cons_succ, List.getElem?_cons_zero, Option.getD_some, List.setIfInBounds_toArray, List.set_cons_zero, List.set_cons_succ] at h; (try simp (decide := true) only [upd, hd, cond_true, cond_false, Bool.true_or, Bool.false_or, decide_true, decide_false] at h); exact h
              · (intro L x W hW hC hL hd K hK; (try simp [depsB, Region.binds] at hd); (try simp only [Nat.reduceAdd] at hK hL); simp only [ovl, Array.getD_eq_getD_getElem?, List.getElem?_toArray, List.getElem?_cons_succ, List.getElem?_cons_zero, Option.getD_some, List.setIfInBounds_toArray, List.set_cons_zero, List.set_cons_succ]; (try simp only [hd, cond_true, cond_false]); go_simp; (have h := hK x W hW); simp only [ovl, Array.getD_eq_getD_getElem?, List.getElem?_toArray, List.getElem?_cons_succ, List.getElem?_cons_zero, Option.getD_some, List.setIfInBounds_toArray, List.set_cons_zero, List.set_cons_succ] at h; (try simp (decide := true) only [upd, hd, cond_true, cond_false, Bool.true_or, Bool.false_or, decide_true, decide_false] at h); exact h)
              intro x W9 hW9
              simp only [ovl, cond_true, Array.getD_eq_getD_getElem?, List.getElem?_toArray, List.getElem?_cons_succ, List.getElem?_cons_zero, Option.getD_some, List.setIfInBounds_toArray, List.set_cons_zero, List.set_cons_succ]
              obtain ⟨xb, xv, xr⟩ := x
              obtain ⟨B9, ⟨a9, c9, h9⟩, R9, s9⟩ := hW9.2.2.2 rfl
              simp only at h9
              subst h9
              have s10 : S2C W9 w0 (Bw ++ (⟨b12, 22, #[.int .i64 s0, .int .i64 s1]⟩ :: (⟨b13, 41, #[.slice e0 g0.length f0, .slice e1 g1.length f1]⟩ :: (fb ++ (B9 ++ (B0 ++ B1)))))) X p T q U := s9.permC (perm_cnt fun x => by simp only [cnt_append, cnt_cons, cnt_nil] <;> omega)
              have HS9 := Lib.hid s10.dropAll
              have hR9 : Row 89 4 (.slice a9 (pk.length - 1) c9) (pk.take z ++ pk.drop (z + 1)).length (wayc (pk.take z ++ pk.drop (z + 1))) B9 := by
                have : (pk.take z ++ pk.drop (z + 1)).length = pk.length - 1 := by simp; omega
                rw [this]; exact R9
              have HR9 := Lib.hid hR9
              clear s9 s10 R9 hR9 hW9
              go_wp2_with fail
              go_meet
              exact ⟨T, U, s0, s1, (pk.take z ++ pk.drop (z + 1)), ⟨X, B9, B0, B1, us0, us1, HS9.out, HR9.out, (fun k hk => HMw.out k (by rcases List.mem_append.1 hk with hk | hk; (· exact List.mem_of_mem_take hk); (· exact List.mem_of_mem_drop hk))), HR0.out, HM0.out.mono (Sub.refl _), HR1.out, HM1.out.mono (Sub.refl _)⟩, (HI.out.cut z)⟩
        case rest =>
          as_aux_lemma =>
            obtain ⟨T', U', s0', s1', pk', hPS', hPI'⟩ := hcut
            obtain ⟨X, Bw, B0, B1, us0, us1, hS, hRw, hMw, hR0, hM0, hR1, hM1⟩ := hPS'
            have HSc := Lib.hid hS
            have HRw := Lib.hid hRw
            have HMw := Lib.hid hMw
            have HR0 := Lib.hid hR0
            have HM0 := Lib.hid hM0
            have HR1 := Lib.hid hR1
            have HM1 := Lib.hid hM1
            have HI := Lib.hid hPI'
            have HWT := Lib.hid hPI'.tT
            have HWU := Lib.hid hPI'.tU
            have hg0 : g0.length ≤ 1000000 := by
              have h1 := hPI'.ba.got
              have h2 := hPI'.ba.hle
              have h3 := hPI'.n1
              have h4 : (g0 ++ T'.got).length = T'.heard := by rw [h1, wds_len]
              simp at h4
              omega
            have hg1 : g1.length ≤ 1000000 := by
              have h1 := hPI'.ab.got
              have h2 := hPI'.ab.hle
              have h3 := hPI'.n0
              have h4 : (g1 ++ U'.got).length = U'.heard := by rw [h1, wds_len]
              simp at h4
              omega
            clear hS hRw hMw hR0 hM0 hR1 hM1 hPI'
            go_wp2_with fail
            refine wp_region_ov (fun L (x : Value × Value) => [(L 0, 166, .pointer (some ⟨b13, 0, none⟩)), (L 1, 167, .slice e0 g0.length f0), (L 2, 168, ptr p), (L 3, 169, x.1), (L 4, 170, x.2), (L 5, 171, .pointer (some ⟨b13, 0, none⟩))])
              (fun L x W => (L 3 = false → S2C W w0 (⟨b12, 22, #[.int .i64 s0', .int .i64 s1']⟩ :: (⟨b13, 41, #[.slice e0 g0.length f0, .slice e1 g1.length f1]⟩ :: (fb ++ (Bw ++ (B0 ++ B1))))) X p T' q U') ∧ (L 3 = true → L 4 = false → ∃ X', Sub X X' ∧ S2C W w0 (⟨b12, 22, #[.int .i64 s0', .int .i64 s1']⟩ :: (⟨b13, 41, #[.slice e0 g0.length f0, .slice e1 g1.length f1]⟩ :: (fb ++ (Bw ++ (B0 ++ B1))))) X' p (gotT T') q U' ∧ MsgL w0 X' x.1 T'.got) ∧ (L 4 = true → ∃ X' B' us', Sub X X' ∧ (∃ ax cx, x.2 = .slice ax (g0.length + T'.got.length) cx) ∧ Row 34 1 x.2 (g0.length + T'.got.length) us' B' ∧ Msgs w0 X' us' (g0 ++ T'.got) ∧ S2C W w0 (⟨b12, 22, #[.int .i64 s0', .int .i64 s1']⟩ :: (⟨b13, 41, #[bif L 6 then x.2 else .slice e0 g0.length f0, .slice e1 g1.length f1]⟩ :: (fb ++ (Bw ++ (B' ++ B1))))) X' p (gotT T') q U')) (undef, undef) (by kernel_rfl) (by kernel_rfl) (by rfl) ⟨fun _ => HSc.out.drew, fun h => by simp at h, fun h => by simp at h⟩ ?_ ⟨?_, ?_, ?_, ?_, ?_, ?_, ?_, trivial⟩
            rotate_left
            · (intro L x W hW hC hL hd K hK; (try simp [depsB, Region.binds] at hd); (try simp only [Nat.reduceAdd] at hK hL); simp only [ovl, Array.getD_eq_getD_getElem?, List.getElem?_toArray, List.getElem?_cons_succ, List.getElem?_cons_zero, Option.getD_some, List.setIfInBounds_toArray, List.set_cons_zero, List.set_cons_succ]; (try simp only [hd, cond_true, cond_false]); go_simp; (have h := hK x W hW); simp only [ovl, Array.getD_eq_getD_getElem?, List.getElem?_toArray, List.getElem?_cons_succ, List.getElem?_cons_zero, Option.getD_some, List.setIfInBounds_toArray, List.set_cons_zero, List.set_cons_succ] at h; (try simp (decide := true) only [upd, hd, cond_true, cond_false, Bool.true_or, Bool.false_or, decide_true, decide_false] at h); exact h)
            · intro L x W hW hC hL hd K hK; (try simp [depsB, Region.binds] at hd); (try simp only [Nat.reduceAdd] at hK hL)
              (have h4 : L 4 = false := by cases hl : L 4 with | false => rfl | true => have hx := hC 4 _ rfl hl; simp [depsB, Region.binds, hL, hd] at hx); (replace hd := And.intro hd h4)
              simp only [ovl, Array.getD_eq_getD_getElem?, List.getElem?_toArray, List.getElem?_cons_succ, List.getElem?_cons_zero, Option.getD_some, List.setIfInBounds_toArray, List.set_cons_zero, List.set_cons_succ]; (try simp only [hd, cond_true, cond_false])
              have hb : HasBlk W b13 41 #[.slice e0 g0.length f0, .slice e1 g1.length f1] := by
                cases h3 : L 3 with
                | false => exact (hW.1 h3).has (List.mem_cons_of_mem _ (List.mem_cons_self ..))
                | true => obtain ⟨X', -, s', -⟩ := hW.2.1 h3 h4; exact s'.has (List.mem_cons_of_mem _ (List.mem_cons_self ..))
              have c0 := hb.cell 0
              have l0 := hb.lt
              clear hb
              go_simp
              (have h := hK x W hW); simp only [ovl, Array.getD_eq_getD_getElem?, List.getElem?_toArray, List.getElem?_cons_succ, List.getElem?_cons_zero, Option.getD_some, List.setIfInBounds_toArray, List.set_cons_zero, List.set_cons_succ] at h; (try simp (decide := true) only [upd, hd, cond_true, cond_false, Bool.true_or, Bool.false_or, decide_true, decide_false] at h); exact h
            · (intro L x W hW hC hL hd K hK; (try simp [depsB, Region.binds] at hd); (try simp only [Nat.reduceAdd] at hK hL); simp only [ovl, Array.getD_eq_getD_getElem?, List.getElem?_toArray, List.getElem?_cons_succ, List.getElem?_cons_zero, Option.getD_some, List.setIfInBounds_toArray, List.set_cons_zero, List.set_cons_succ]; (try simp only [hd, cond_true, cond_false]); go_simp; (have h := hK x W hW); simp only [ovl, Array.getD_eq_getD_getElem?, List.getElem?_toArray, List.getElem?_cons_succ, List.getElem?_cons_zero, Option.getD_some, List.setIfInBounds_toArray, List.set_cons_zero, List.set_cons_succ] at h; (try simp (decide := true) only [upd, hd, cond_true, cond_false, Bool.true_or, Bool.false_or, decide_true, decide_false] at h); exact h)
            · intro L x W hW hC hL hd K hK; (try simp [depsB, Region.binds] at hd); (try simp only [Nat.reduceAdd] at hK hL)
              (have h4 : L 4 = false := by cases hl : L 4 with | false => rfl | true => have hx := hC 4 _ rfl hl; simp [depsB, Region.binds, hL, hd] at hx); (replace hd := And.intro hd h4)
              simp only [ovl, Array.getD_eq_getD_getElem?, List.getElem?_toArray, List.getElem?_cons_succ, List.getElem?_cons_zero, Option.getD_some, List.setIfInBounds_toArray, List.set_cons_zero, List.set_cons_succ]; (try simp only [hd, cond_true, cond_false])
              refine wp_call_in 21 (by rfl) (by kernel_rfl) #[ptr p] (by (simp only [List.map_toArray, List.map_cons, List.map_nil, Act.eval, Array.getD_eq_getD_getElem?, List.getElem?_toArray, List.getElem?_cons_succ, List.getElem?_cons_zero, Option.getD_some])) (((hW.1 hL).got T'.got rfl).mono ?_)
              rintro e W4 ⟨v, X5, rfl, hs5, s5, m5⟩
              refine ⟨_, rfl, ?_⟩
              (have h := hK (v, x.2) W4 ⟨fun h => by simp [upd] at h, fun _ _ => ⟨X5, hs5, s5, m5⟩, fun h => by simp [upd, h4] at h⟩); simp only [ovl, Array.getD_eq_getD_getElem?, List.getElem?_toArray, List.getElem?_cons_succ, List.getElem?_cons_zero, Option.getD_some, List.setIfInBounds_toArray, List.set_cons_zero, List.set_cons_succ] at h; (try simp (decide := true) only [upd, hd, cond_true, cond_false, Bool.true_or, Bool.false_or, decide_true, decide_false] at h); exact h
            · intro L x W hW hC hL hd K hK; (try simp [depsB, Region.binds] at hd); (try simp only [Nat.reduceAdd] at hK hL)
              have h3 : L 3 = true := by simp only [hd]
              obtain ⟨xv, xr⟩ := x
              have hW3 := hW.2.1 h3 hL
              clear hW
              simp only at hW3
              simp only [ovl, Array.getD_eq_getD_getElem?, List.getElem?_toArray, List.getElem?_cons_succ, List.getElem?_cons_zero, Option.getD_some, List.setIfInBounds_toArray, List.set_cons_zero, List.set_cons_succ]; (try simp only [hd, cond_true, cond_false])
              obtain ⟨X5, hs5, s5, m5⟩ := hW3
              obtain ⟨av, cv, rfl⟩ := m5.slice
              obtain ⟨Y5, O5, hX5, -⟩ := s5.ow
              obtain ⟨us5, hl5, hm5, hc5⟩ := m5.open_ O5 hX5
              have hgl : T'.got.length ≤ 1000000 := by have := HWT.out.got; omega
              have s6 : S2C W w0 (B0 ++ (⟨b12, 22, #[.int .i64 s0', .int .i64 s1']⟩ :: (⟨b13, 41, #[.slice e0 g0.length f0, .slice e1 g1.length f1]⟩ :: (fb ++ (Bw ++ B1))))) X5 p (gotT T') q U' := s5.permC (perm_cnt fun x => by simp only [cnt_append, cnt_cons, cnt_nil] <;> omega)
              refine s6.appendK (.tmp 167) (.tmp 169) 25 (by rfl) elt_msg (by rfl) HR0.out av _ cv us5 (by rfl) (by rw [hl5]; omega) m5.cap.2 hc5 hm5.one (by unfold maxLen; omega) (by omega) (g0.length + T'.got.length) rfl (us0 ++ us5) rfl (fun ao' cap' B' W7 R7 s7 => ?_)
              have h6 : L 6 = false := by
                cases h6 : L 6 with
                | false => rfl
                | true => have hx := hC 6 _ rfl h6; simp [depsB, Region.binds, hL] at hx
              have s8 : S2C W7 w0 (⟨b12, 22, #[.int .i64 s0', .int .i64 s1']⟩ :: (⟨b13, 41, #[.slice e0 g0.length f0, .slice e1 g1.length f1]⟩ :: (fb ++ (Bw ++ (B' ++ B1))))) X5 p (gotT T') q U' := s7.permC (perm_cnt fun x => by simp only [cnt_append, cnt_cons, cnt_nil] <;> omega)
              (have h := hK (.slice av T'.got.length cv, .slice ao' (g0.length + T'.got.length) cap') W7 ⟨fun h => by simp [upd, h3] at h, fun _ h => by simp [upd] at h, fun _ => ⟨X5, B', _, hs5, ⟨_, _, rfl⟩, R7, (HM0.out.mono hs5).app hm5, by simpa [upd, h6] using s8⟩⟩); simp only [ovl, Array.getD_eq_getD_getElem?, List.getElem?_toArray, List.getElem?_cons_succ, List.getElem?_cons_zero, Option.getD_some, List.setIfInBounds_toArray, List.set_cons_zero, List.set_cons_succ] at h; (try simp (decide := true) only [upd, hd, cond_true, cond_false, Bool.true_or, Bool.false_or, decide_true, decide_false] at h); exact h
            · (intro L x W hW hC hL hd K hK; (try simp [depsB, Region.binds] at hd); (try simp only [Nat.reduceAdd] at hK hL); simp only [ovl, Array.getD_eq_getD_getElem?, List.getElem?_toArray, List.getElem?_cons_succ, List.getElem?_cons_zero, Option.getD_some, List.setIfInBounds_toArray, List.set_cons_zero, List.set_cons_succ]; (try simp only [hd, cond_true, cond_false]); go_simp; (have h := hK x W hW); simp only [ovl, Array.getD_eq_getD_getElem?, List.getElem?_toArray, List.getElem?_cons_succ, List.getElem?_cons_zero, Option.getD_some, List.setIfInBounds_toArray, List.set_cons_zero, List.set_cons_succ] at h; (try simp (decide := true) only [upd, hd, cond_true, cond_false, Bool.true_or, Bool.false_or, decide_true, decide_false] at h); exact h)
            · intro L x W hW hC hL hd K hK; (try simp [depsB, Region.binds] at hd); (try simp only [Nat.reduceAdd] at hK hL)
              have h4 : L 4 = true := by simp only [hd]
              obtain ⟨xv, xr⟩ := x
              have hW4 := hW.2.2 h4
              clear hW
              simp only [hL, cond_false] at hW4
              simp only [ovl, Array.getD_eq_getD_getElem?, List.getElem?_toArray, List.getElem?_cons_succ, List.getElem?_cons_zero, Option.getD_some, List.setIfInBounds_toArray, List.set_cons_zero, List.set_cons_succ]; (try simp only [hd, cond_true, cond_false])
              obtain ⟨X5, B5, us5, hs5, ⟨ax, cx, rfl⟩, R5, M5, s5⟩ := hW4
              have hb := s5.has (b := b13) (t := 41) (cs := #[.slice e0 g0.length f0, .slice e1 g1.length f1]) (List.mem_cons_of_mem _ (List.mem_cons_self ..))
              have c0 := hb.cell 0
              have fz := hb.frozen 0
              have l0 := hb.lt
              clear hb
              have s6 : S2C W w0 (⟨b13, 41, #[.slice e0 g0.length f0, .slice e1 g1.length f1]⟩ :: (⟨b12, 22, #[.int .i64 s0', .int .i64 s1']⟩ :: (fb ++ (Bw ++ (B5 ++ B1))))) X5 p (gotT T') q U' := s5.permC (perm_cnt fun x => by simp only [cnt_append, cnt_cons, cnt_nil] <;> omega)
              have s7 := s6.set 0 (.slice ax (g0.length + T'.got.length) cx)
              have s8 : S2C (W.setCell ⟨b13, 0, none⟩ (.slice ax (g0.length + T'.got.length) cx)) w0 (⟨b12, 22, #[.int .i64 s0', .int .i64 s1']⟩ :: (⟨b13, 41, #[.slice ax (g0.length + T'.got.length) cx, .slice e1 g1.length f1]⟩ :: (fb ++ (Bw ++ (B5 ++ B1))))) X5 p (gotT T') q U' := by
                refine S2C.permC (C := (⟨b13, 41, #[.slice ax (g0.length + T'.got.length) cx, .slice e1 g1.length f1]⟩ :: (⟨b12, 22, #[.int .i64 s0', .int .i64 s1']⟩ :: (fb ++ (Bw ++ (B5 ++ B1)))))) ?_ (perm_cnt fun x => by simp only [cnt_append, cnt_cons, cnt_nil] <;> omega)
                simpa using s7
              clear s5 s6 s7
              go_simp
              (have h := hK (xv, .slice ax (g0.length + T'.got.length) cx) _ ⟨fun h => by simp [upd, hd] at h, fun _ h => by simp [upd, hd] at h, fun _ => ⟨X5, B5, us5, hs5, ⟨_, _, rfl⟩, R5, M5, by simpa [upd] using s8⟩⟩); simp only [ovl, Array.getD_eq_getD_getElem?, List.getElem?_toArray, List.getElem?_cons_succ, List.getElem?_cons_zero, Option.getD_some, List.setIfInBounds_toArray, List.set_cons_zero, List.set_cons_succ] at h; (try simp (decide := true) only [upd, hd, cond_true, cond_false, Bool.true_or, Bool.false_or, decide_true, decide_false] at h); exact h
            intro x W9 hW9
            simp only [ovl, cond_true, Array.getD_eq_getD_getElem?, List.getElem?_toArray, List.getElem?_cons_succ, List.getElem?_cons_zero, Option.getD_some, List.setIfInBounds_toArray, List.set_cons_zero, List.set_cons_succ]
            obtain ⟨xv, xr⟩ := x
            simp only [cond_true] at hW9
            obtain ⟨X7, BN0, un0, hs7, ⟨ax0, cx0, rfl⟩, RN0, MN0, sN0⟩ := hW9.2.2 trivial
            have HM0' := Lib.hid (MN0)
            clear HSc
            have HSc := Lib.hid sN0
            have HM1' := Lib.hid (HM1.out.mono hs7)
            clear HM1 sN0 hW9 MN0
            have HM1 := HM1'
            clear HM1'
            have HRN0 := Lib.hid RN0
            clear RN0
            go_wp2_with fail
            refine wp_region_ov (fun L (x : Value × Value) => [(L 0, 172, .pointer (some ⟨b13, 1, none⟩)), (L 1, 173, .slice e1 g1.length f1), (L 2, 174, ptr q), (L 3, 175, x.1), (L 4, 176, x.2), (L 5, 177, .pointer (some ⟨b13, 1, none⟩))])
              (fun L x W => (L 3 = false → S2C W w0 (⟨b12, 22, #[.int .i64 s0', .int .i64 s1']⟩ :: (⟨b13, 41, #[.slice ax0 (g0.length + T'.got.length) cx0, .slice e1 g1.length f1]⟩ :: (fb ++ (Bw ++ (BN0 ++ B1))))) X7 p (gotT T') q U') ∧ (L 3 = true → L 4 = false → ∃ X', Sub X7 X' ∧ S2C W w0 (⟨b12, 22, #[.int .i64 s0', .int .i64 s1']⟩ :: (⟨b13, 41, #[.slice ax0 (g0.length + T'.got.length) cx0, .slice e1 g1.length f1]⟩ :: (fb ++ (Bw ++ (BN0 ++ B1))))) X' p (gotT T') q (gotT U') ∧ MsgL w0 X' x.1 U'.got) ∧ (L 4 = true → ∃ X' B' us', Sub X7 X' ∧ (∃ ax cx, x.2 = .slice ax (g1.length + U'.got.length) cx) ∧ Row 34 1 x.2 (g1.length + U'.got.length) us' B' ∧ Msgs w0 X' us' (g1 ++ U'.got) ∧ S2C W w0 (⟨b12, 22, #[.int .i64 s0', .int .i64 s1']⟩ :: (⟨b13, 41, #[.slice ax0 (g0.length + T'.got.length) cx0, bif L 6 then x.2 else .slice e1 g1.length f1]⟩ :: (fb ++ (Bw ++ (BN0 ++ B'))))) X' p (gotT T') q (gotT U'))) (undef, undef) (by kernel_rfl) (by kernel_rfl) (by rfl) ⟨fun _ => HSc.out.drew, fun h => by simp at h, fun h => by simp at h⟩ ?_ ⟨?_, ?_, ?_, ?_, ?_, ?_, ?_, trivial⟩
            rotate_left
            · (intro L x W hW hC hL hd K hK; (try simp [depsB, Region.binds] at hd); (try simp only [Nat.reduceAdd] at hK hL); simp only [ovl, Array.getD_eq_getD_getElem?, List.getElem?_toArray, List.getElem?_cons_succ, List.getElem?_cons_zero, Option.getD_some, List.setIfInBounds_toArray, List.set_cons_zero, List.set_cons_succ]; (try simp only [hd, cond_true, cond_false]); go_simp; (have h := hK x W hW); simp only [ovl, Array.getD_eq_getD_getElem?, List.getElem?_toArray, List.getElem?_cons_succ, List.getElem?_cons_zero, Option.getD_some, List.setIfInBounds_toArray, List.set_cons_zero, List.set_cons_succ] at h; (try simp (decide := true) only [upd, hd, cond_true, cond_false, Bool.true_or, Bool.false_or, decide_true, decide_false] at h); exact h)
            · intro L x W hW hC hL hd K hK; (try simp [depsB, Region.binds] at hd); (try simp only [Nat.reduceAdd] at hK hL)
              (have h4 : L 4 = false := by cases hl : L 4 with | false => rfl | true => have hx := hC 4 _ rfl hl; simp [depsB, Region.binds, hL, hd] at hx); (replace hd := And.intro hd h4)
              simp only [ovl, Array.getD_eq_getD_getElem?, List.getElem?_toArray, List.getElem?_cons_succ, List.getElem?_cons_zero, Option.getD_some, List.setIfInBounds_toArray, List.set_cons_zero, List.set_cons_succ]; (try simp only [hd, cond_true, cond_false])
              have hb : HasBlk W b13 41 #[.slice ax0 (g0.length + T'.got.length) cx0, .slice e1 g1.length f1] := by
                cases h3 : L 3 with
                | false => exact (hW.1 h3).has (List.mem_cons_of_mem _ (List.mem_cons_self ..))
                | true => obtain ⟨X', -, s', -⟩ := hW.2.1 h3 h4; exact s'.has (List.mem_cons_of_mem _ (List.mem_cons_self ..))
              have c0 := hb.cell 1
              have l0 := hb.lt
              clear hb
              go_simp
              (have h := hK x W hW); simp only [ovl, Array.getD_eq_getD_getElem?, List.getElem?_toArray, List.getElem?_cons_succ, List.getElem?_cons_zero, Option.getD_some, List.setIfInBounds_toArray, List.set_cons_zero, List.set_cons_succ] at h; (try simp (decide := true) only [upd, hd, cond_true, cond_false, Bool.true_or, Bool.false_or, decide_true, decide_false] at h); exact h
            · (intro L x W hW hC hL hd K hK; (try simp [depsB, Region.binds] at hd); (try simp only [Nat.reduceAdd] at hK hL); simp only [ovl, Array.getD_eq_getD_getElem?, List.getElem?_toArray, List.getElem?_cons_succ, List.getElem?_cons_zero, Option.getD_some, List.setIfInBounds_toArray, List.set_cons_zero, List.set_cons_succ]; (try simp only [hd, cond_true, cond_false]); go_simp; (have h := hK x W hW); simp only [ovl, Array.getD_eq_getD_getElem?, List.getElem?_toArray, List.getElem?_cons_succ, List.getElem?_cons_zero, Option.getD_some, List.setIfInBounds_toArray, List.set_cons_zero, List.set_cons_succ] at h; (try simp (decide := true) only [upd, hd, cond_true, cond_false, Bool.true_or, Bool.false_or, decide_true, decide_false] at h); exact h)
            · intro L x W hW hC hL hd K hK; (try simp [depsB, Region.binds] at hd); (try simp only [Nat.reduceAdd] at hK hL)
              (have h4 : L 4 = false := by cases hl : L 4 with | false => rfl | true => have hx := hC 4 _ rfl hl; simp [depsB, Region.binds, hL, hd] at hx); (replace hd := And.intro hd h4)
              simp only [ovl, Array.getD_eq_getD_getElem?, List.getElem?_toArray, List.getElem?_cons_succ, List.getElem?_cons_zero, Option.getD_some, List.setIfInBounds_toArray, List.set_cons_zero, List.set_cons_succ]; (try simp only [hd, cond_true, cond_false])
              refine wp_call_in 21 (by rfl) (by kernel_rfl) #[ptr q] (by (simp only [List.map_toArray, List.map_cons, List.map_nil, Act.eval, Array.getD_eq_getD_getElem?, List.getElem?_toArray, List.getElem?_cons_succ, List.getElem?_cons_zero, Option.getD_some])) (((hW.1 hL).swap.got U'.got rfl).mono ?_)
              rintro e W4 ⟨v, X5, rfl, hs5, s5, m5⟩
              refine ⟨_, rfl, ?_⟩
              (have h := hK (v, x.2) W4 ⟨fun h => by simp [upd] at h, fun _ _ => ⟨X5, hs5, s5.swap, m5⟩, fun h => by simp [upd, h4] at h⟩); simp only [ovl, Array.getD_eq_getD_getElem?, List.getElem?_toArray, List.getElem?_cons_succ, List.getElem?_cons_zero, Option.getD_some, List.setIfInBounds_toArray, List.set_cons_zero, List.set_cons_succ] at h; (try simp (decide := true) only [upd, hd, cond_true, cond_false, Bool.true_or, Bool.false_or, decide_true, decide_false] at h); exact h
            · intro L x W hW hC hL hd K hK; (try simp [depsB, Region.binds] at hd); (try simp only [Nat.reduceAdd] at hK hL)
              have h3 : L 3 = true := by simp only [hd]
              obtain ⟨xv, xr⟩ := x
              have hW3 := hW.2.1 h3 hL
              clear hW
              simp only at hW3
              simp only [ovl, Array.getD_eq_getD_getElem?, List.getElem?_toArray, List.getElem?_cons_succ, List.getElem?_cons_zero, Option.getD_some, List.setIfInBounds_toArray, List.set_cons_zero, List.set_cons_succ]; (try simp only [hd, cond_true, cond_false])
              obtain ⟨X5, hs5, s5, m5⟩ := hW3
              obtain ⟨av, cv, rfl⟩ := m5.slice
              obtain ⟨Y5, O5, hX5, -⟩ := s5.ow
              obtain ⟨us5, hl5, hm5, hc5⟩ := m5.open_ O5 hX5
              have hgl : U'.got.length ≤ 1000000 := by have := HWU.out.got; omega
              have s6 : S2C W w0 (B1 ++ (⟨b12, 22, #[.int .i64 s0', .int .i64 s1']⟩ :: (⟨b13, 41, #[.slice ax0 (g0.length + T'.got.length) cx0, .slice e1 g1.length f1]⟩ :: (fb ++ (Bw ++ BN0))))) X5 p (gotT T') q (gotT U') := s5.permC (perm_cnt fun x => by simp only [cnt_append, cnt_cons, cnt_nil] <;> omega)
              refine s6.appendK (.tmp 173) (.tmp 175) 25 (by rfl) elt_msg (by rfl) HR1.out av _ cv us5 (by rfl) (by rw [hl5]; omega) m5.cap.2 hc5 hm5.one (by unfold maxLen; omega) (by omega) (g1.length + U'.got.length) rfl (us1 ++ us5) rfl (fun ao' cap' B' W7 R7 s7 => ?_)
              have h6 : L 6 = false := by
                cases h6 : L 6 with
                | false => rfl
                | true => have hx := hC 6 _ rfl h6; simp [depsB, Region.binds, hL] at hx
              have s8 : S2C W7 w0 (⟨b12, 22, #[.int .i64 s0', .int .i64 s1']⟩ :: (⟨b13, 41, #[.slice ax0 (g0.length + T'.got.length) cx0, .slice e1 g1.length f1]⟩ :: (fb ++ (Bw ++ (BN0 ++ B'))))) X5 p (gotT T') q (gotT U') := s7.permC (perm_cnt fun x => by simp only [cnt_append, cnt_cons, cnt_nil] <;> omega)
              (have h := hK (.slice av U'.got.length cv, .slice ao' (g1.length + U'.got.length) cap') W7 ⟨fun h => by simp [upd, h3] at h, fun _ h => by simp [upd] at h, fun _ => ⟨X5, B', _, hs5, ⟨_, _, rfl⟩, R7, (HM1.out.mono hs5).app hm5, by simpa [upd, h6] using s8⟩⟩); simp only [ovl, Array.getD_eq_getD_getElem?, List.getElem?_toArray, List.getElem?_cons_succ, List.getElem?_cons_zero, Option.getD_some, List.setIfInBounds_toArray, List.set_cons_zero, List.set_cons_succ] at h; (try simp (decide := true) only [upd, hd, cond_true, cond_false, Bool.true_or, Bool.false_or, decide_true, decide_false] at h); exact h
            · (intro L x W hW hC hL hd K hK; (try simp [depsB, Region.binds] at hd); (try simp only [Nat.reduceAdd] at hK hL); simp only [ovl, Array.getD_eq_getD_getElem?, List.getElem?_toArray, List.getElem?_cons_succ, List.getElem?_cons_zero, Option.getD_some, List.setIfInBounds_toArray, List.set_cons_zero, List.set_cons_succ]; (try simp only [hd, cond_true, cond_false]); go_simp; (have h := hK x W hW); simp only [ovl, Array.getD_eq_getD_getElem?, List.getElem?_toArray, List.getElem?_cons_succ, List.getElem?_cons_zero, Option.getD_some, List.setIfInBounds_toArray, List.set_cons_zero, List.set_cons_succ] at h; (try simp (decide := true) only [upd, hd, cond_true, cond_false, Bool.true_or, Bool.false_or, decide_true, decide_false] at h); exact h)
            · intro L x W hW hC hL hd K hK; (try simp [depsB, Region.binds] at hd); (try simp only [Nat.reduceAdd] at hK hL)
              have h4 : L 4 = true := by simp only [hd]
              obtain ⟨xv, xr⟩ := x
              have hW4 := hW.2.2 h4
              clear hW
              simp only [hL, cond_false] at hW4
              simp only [ovl, Array.getD_eq_getD_getElem?, List.getElem?_toArray, List.getElem?_cons_succ, List.getElem?_cons_zero, Option.getD_some, List.setIfInBounds_toArray, List.set_cons_zero, List.set_cons_succ]; (try simp only [hd, cond_true, cond_false])
              obtain ⟨X5, B5, us5, hs5, ⟨ax, cx, rfl⟩, R5, M5, s5⟩ := hW4
              have hb := s5.has (b := b13) (t := 41) (cs := #[.slice ax0 (g0.length + T'.got.length) cx0, .slice e1 g1.length f1]) (List.mem_cons_of_mem _ (List.mem_cons_self ..))
              have c0 := hb.cell 1
              have fz := hb.frozen 1
              have l0 := hb.lt
              clear hb
              have s6 : S2C W w0 (⟨b13, 41, #[.slice ax0 (g0.length + T'.got.length) cx0, .slice e1 g1.length f1]⟩ :: (⟨b12, 22, #[.int .i64 s0', .int .i64 s1']⟩ :: (fb ++ (Bw ++ (BN0 ++ B5))))) X5 p (gotT T') q (gotT U') := s5.permC (perm_cnt fun x => by simp only [cnt_append, cnt_cons, cnt_nil] <;> omega)
              have s7 := s6.set 1 (.slice ax (g1.length + U'.got.length) cx)
              have s8 : S2C (W.setCell ⟨b13, 1, none⟩ (.slice ax (g1.length + U'.got.length) cx)) w0 (⟨b12, 22, #[.int .i64 s0', .int .i64 s1']⟩ :: (⟨b13, 41, #[.slice ax0 (g0.length + T'.got.length) cx0, .slice ax (g1.length + U'.got.length) cx]⟩ :: (fb ++ (Bw ++ (BN0 ++ B5))))) X5 p (gotT T') q (gotT U') := by
                refine S2C.permC (C := (⟨b13, 41, #[.slice ax0 (g0.length + T'.got.length) cx0, .slice ax (g1.length + U'.got.length) cx]⟩ :: (⟨b12, 22, #[.int .i64 s0', .int .i64 s1']⟩ :: (fb ++ (Bw ++ (BN0 ++ B5)))))) ?_ (perm_cnt fun x => by simp only [cnt_append, cnt_cons, cnt_nil] <;> omega)
                simpa using s7
              clear s5 s6 s7
              go_simp
              (have h := hK (xv, .slice ax (g1.length + U'.got.length) cx) _ ⟨fun h => by simp [upd, hd] at h, fun _ h => by simp [upd, hd] at h, fun _ => ⟨X5, B5, us5, hs5, ⟨_, _, rfl⟩, R5, M5, by simpa [upd] using s8⟩⟩); simp only [ovl, Array.getD_eq_getD_getElem?, List.getElem?_toArray, List.getElem?_cons_succ, List.getElem?_cons_zero, Option.getD_some, List.setIfInBounds_toArray, List.set_cons_zero, List.set_cons_succ] at h; (try simp (decide := true) only [upd, hd, cond_true, cond_false, Bool.true_or, Bool.false_or, decide_true, decide_false] at h); exact h
            intro x W9 hW9
            simp only [ovl, cond_true, Array.getD_eq_getD_getElem?, List.getElem?_toArray, List.getElem?_cons_succ, List.getElem?_cons_zero, Option.getD_some, List.setIfInBounds_toArray, List.set_cons_zero, List.set_cons_succ]
            obtain ⟨xv, xr⟩ := x
            simp only [cond_true] at hW9
            obtain ⟨X8, BN1, un1, hs8, ⟨ax1, cx1, rfl⟩, RN1, MN1, sN1⟩ := hW9.2.2 trivial
            have HSN := Lib.hid sN1
            have HRN1 := Lib.hid RN1
            have HMN1 := Lib.hid MN1
            have Hs7 := Lib.hid hs7
            have Hs8 := Lib.hid hs8
            clear sN1 RN1 MN1 hs7 hs8 hW9
            go_wp2
            exact ⟨⟨n + 1, gotT T', gotT U', s0', s1', _, _, g0 ++ T'.got, g1 ++ U'.got, pk', by simp, by omega, by omega, ⟨X8, Bw, BN0, BN1, un0, un1, HSN.out, HRw.out, fun k hk => ((HMw.out k hk).mono Hs7.out).mono Hs8.out, by simpa using HRN0.out, HM0'.out.mono Hs8.out, by simpa using HRN1.out, HMN1.out⟩, HI.out.got0.got1, rfl, rfl⟩, by simp [intOf]; omega⟩
    · by_cases hcn : n < n0
      · have hd1 : decide ((n : Int) < (n0 : Int)) = true := decide_eq_true (by omega)
        have hd2 : decide ((n : Int) < 120) = false := decide_eq_false (by omega)
        go_wp2_with fail
        rw [HF.out] at HS
        refine wp_region_ov (fun L (_ : Unit) => [(L 0, 178, ptr p), (L 1, 179, ptr q), (L 2, 180, .agg #[.int .i64 s0, .int .i64 s1]), (L 3, 181, .agg #[.slice e0 g0.length f0, .slice e1 g1.length f1]), (L 4, 4, ptr p), (L 5, 5, ptr q)]) (fun L _ W => S2C W w0 (⟨b12, 22, #[.int .i64 s0, .int .i64 s1]⟩ :: (⟨b13, 41, #[.slice e0 g0.length f0, .slice e1 g1.length f1]⟩ :: ([⟨w.heap.size + 2, 41, (bif L 7 then #[.slice e0 g0.length f0, .slice e1 g1.length f1] else #[.slice none 0 0, .slice none 0 0])⟩, ⟨w.heap.size + 1, 22, (bif L 6 then #[.int .i64 s0, .int .i64 s1] else #[.int .i64 0, .int .i64 0])⟩, ⟨w.heap.size, 22, #[.int .i64 dx, .int .i64 dy]⟩] ++ (Bw ++ (B0 ++ B1))))) X p T q U) () (by kernel_rfl) (by kernel_rfl) (by rfl) HS.out.drew ?_ ⟨?_, ?_, ?_, ?_, ?_, ?_, ?_, ?_, trivial⟩
        rotate_left
        iterate 6 (· (intro L x W hW hC hL hd K hK; (try simp [depsB, Region.binds] at hd); (try simp only [Nat.reduceAdd] at hK hL); simp only [ovl, Array.getD_eq_getD_getElem?, List.getElem?_toArray, List.getElem?_cons_succ, List.getElem?_cons_zero, Option.getD_some, List.setIfInBounds_toArray, List.set_cons_zero, List.set_cons_succ]; (try simp only [hd, cond_true, cond_false]); (have hW0 := hW); (have hb1 : HasBlk W b12 22 #[.int .i64 s0, .int .i64 s1] := hW.has (List.mem_cons_self ..)); (have k0 := hb1.cell 0); (have k1 := hb1.cell 1); (have l1 := hb1.lt); (have hb2 : HasBlk W b13 41 #[.slice e0 g0.length f0, .slice e1 g1.length f1] := hW.has (List.mem_cons_of_mem _ (List.mem_cons_self ..))); (have j0 := hb2.cell 0); (have j1 := hb2.cell 1); (have l2 := hb2.lt); clear hb1 hb2; clear hW; go_simp; (have h := hK () W hW0); simp only [ovl, Array.getD_eq_getD_getElem?, List.getElem?_toArray, List.getElem?_cons_succ, List.getElem?_cons_zero, Option.getD_some, List.setIfInBounds_toArray, List.set_cons_zero, List.set_cons_succ] at h; (try simp (decide := true) only [upd, hd, cond_true, cond_false, Bool.true_or, Bool.false_or, decide_true, decide_false] at h); exact h))
        · intro L x W hW hC hL hd K hK; (try simp [depsB, Region.binds] at hd); (try simp only [Nat.reduceAdd] at hK hL)
          simp only [hL, cond_false] at hW
          simp only [ovl, Array.getD_eq_getD_getElem?, List.getElem?_toArray, List.getElem?_cons_succ, List.getElem?_cons_zero, Option.getD_some, List.setIfInBounds_toArray, List.set_cons_zero, List.set_cons_succ]; (try simp only [hd, cond_true, cond_false])
          have s5 : S2C W w0 (⟨w.heap.size + 1, 22, #[.int .i64 0, .int .i64 0]⟩ :: (⟨b12, 22, #[.int .i64 s0, .int .i64 s1]⟩ :: (⟨b13, 41, #[.slice e0 g0.length f0, .slice e1 g1.length f1]⟩ :: ([⟨w.heap.size + 2, 41, (bif L 7 then #[.slice e0 g0.length f0, .slice e1 g1.length f1] else #[.slice none 0 0, .slice none 0 0])⟩, ⟨w.heap.size, 22, #[.int .i64 dx, .int .i64 dy]⟩] ++ (Bw ++ (B0 ++ B1)))))) X p T q U := hW.permC (perm_cnt fun x => by simp only [cnt_append, cnt_cons, cnt_nil] <;> omega)
          refine s5.storeK 22 (.tmp 6) (.tmp 180) (by rfl) (by rfl) #[.int .i64 s0, .int .i64 s1] (by rfl) (by kernel_rfl) (by rfl) (by simp [Value.oneCell']) (fun W5 s6 => ?_)
          have s7 : S2C W5 w0 (⟨b12, 22, #[.int .i64 s0, .int .i64 s1]⟩ :: (⟨b13, 41, #[.slice e0 g0.length f0, .slice e1 g1.length f1]⟩ :: ([⟨w.heap.size + 2, 41, (bif L 7 then #[.slice e0 g0.length f0, .slice e1 g1.length f1] else #[.slice none 0 0, .slice none 0 0])⟩, ⟨w.heap.size + 1, 22, #[.int .i64 s0, .int .i64 s1]⟩, ⟨w.heap.size, 22, #[.int .i64 dx, .int .i64 dy]⟩] ++ (Bw ++ (B0 ++ B1))))) X p T q U := s6.permC (perm_cnt fun x => by simp only [cnt_append, cnt_cons, cnt_nil] <;> omega)
          (have h := hK () W5 s7); simp only [ovl, Array.getD_eq_getD_getElem?, List.getElem?_toArray, List.getElem?_cons_succ, List.getElem?_cons_zero, Option.getD_some, List.setIfInBounds_toArray, List.set_cons_zero, List.set_cons_succ] at h; (try simp (decide := true) only [upd, hd, cond_true, cond_false, Bool.true_or, Bool.false_or, decide_true, decide_false] at h); exact h
        · intro L x W hW hC hL hd K hK; (try simp [depsB, Region.binds] at hd); (try simp only [Nat.reduceAdd] at hK hL)
          simp only [hL, cond_false] at hW
          simp only [ovl, Array.getD_eq_getD_getElem?, List.getElem?_toArray, List.getElem?_cons_succ, List.getElem?_cons_zero, Option.getD_some, List.setIfInBounds_toArray, List.set_cons_zero, List.set_cons_succ]; (try simp only [hd, cond_true, cond_false])
          have s5 : S2C W w0 (⟨w.heap.size + 2, 41, #[.slice none 0 0, .slice none 0 0]⟩ :: (⟨b12, 22, #[.int .i64 s0, .int .i64 s1]⟩ :: (⟨b13, 41, #[.slice e0 g0.length f0, .slice e1 g1.length f1]⟩ :: ([⟨w.heap.size + 1, 22, (bif L 6 then #[.int .i64 s0, .int .i64 s1] else #[.int .i64 0, .int .i64 0])⟩, ⟨w.heap.size, 22, #[.int .i64 dx, .int .i64 dy]⟩] ++ (Bw ++ (B0 ++ B1)))))) X p T q U := hW.permC (perm_cnt fun x => by simp only [cnt_append, cnt_cons, cnt_nil] <;> omega)
          refine s5.storeK 41 (.tmp 7) (.tmp 181) (by rfl) (by rfl) #[.slice e0 g0.length f0, .slice e1 g1.length f1] (by rfl) (by kernel_rfl) (by rfl) (by simp [Value.oneCell']) (fun W5 s6 => ?_)
          have s7 : S2C W5 w0 (⟨b12, 22, #[.int .i64 s0, .int .i64 s1]⟩ :: (⟨b13, 41, #[.slice e0 g0.length f0, .slice e1 g1.length f1]⟩ :: ([⟨w.heap.size + 2, 41, #[.slice e0 g0.length f0, .slice e1 g1.length f1]⟩, ⟨w.heap.size + 1, 22, (bif L 6 then #[.int .i64 s0, .int .i64 s1] else #[.int .i64 0, .int .i64 0])⟩, ⟨w.heap.size, 22, #[.int .i64 dx, .int .i64 dy]⟩] ++ (Bw ++ (B0 ++ B1))))) X p T q U := s6.permC (perm_cnt fun x => by simp only [cnt_append, cnt_cons, cnt_nil] <;> omega)
          (have h := hK () W5 s7); simp only [ovl, Array.getD_eq_getD_getElem?, List.getElem?_toArray, List.getElem?_cons_succ, List.getElem?_cons_zero, Option.getD_some, List.setIfInBounds_toArray, List.set_cons_zero, List.set_cons_succ] at h; (try simp (decide := true) only [upd, hd, cond_true, cond_false, Bool.true_or, Bool.false_or, decide_true, decide_false] at h); exact h
        intro xx W9 hW9
        simp only [ovl, cond_true, Array.getD_eq_getD_getElem?, List.getElem?_toArray, List.getElem?_cons_succ, List.getElem?_cons_zero, Option.getD_some, List.setIfInBounds_toArray, List.set_cons_zero, List.set_cons_succ]
        simp only [cond_true] at hW9
        have hb6 := hW9.has (b := w.heap.size + 1) (t := 22) (cs := #[.int .i64 s0, .int .i64 s1]) (by simp)
        have hb7 := hW9.has (b := w.heap.size + 2) (t := 41) (cs := #[.slice e0 g0.length f0, .slice e1 g1.length f1]) (by simp)
        have m0 := hb6.cell 0
        have m1 := hb6.cell 1
        have m2 := hb7.cell 0
        have m3 := hb7.cell 1
        have HW9 := Lib.hid hW9
        clear hb6 hb7 hW9
        go_wp2
        refine bodyPost_ret (v := .tuple #[ptr p, ptr q, .agg #[.int .i64 s0, .int .i64 s1], .agg #[.slice e0 g0.length f0, .slice e1 g1.length f1]]) (by simp [results, Try.results16, go_sem, m0, m1, m2, m3]) rfl ?_
        exact ⟨p, q, b12, b13, T, U, s0, s1, _, _, _, g0, g1, pk, n, _, rfl, hn, ⟨X, Bw, B0, B1, us0, us1, HW9.out, HRw.out, HMw.out, HR0.out, HM0.out, HR1.out, HM1.out⟩, HI.out, HgT.out, HgU.out⟩
      · have hd1 : decide ((n : Int) < (n0 : Int)) = false := decide_eq_false (by omega)
        go_wp2_with fail
        rw [HF.out] at HS
        refine wp_region_ov (fun L (_ : Unit) => [(L 0, 178, ptr p), (L 1, 179, ptr q), (L 2, 180, .agg #[.int .i64 s0, .int .i64 s1]), (L 3, 181, .agg #[.slice e0 g0.length f0, .slice e1 g1.length f1]), (L 4, 4, ptr p), (L 5, 5, ptr q)]) (fun L _ W => S2C W w0 (⟨b12, 22, #[.int .i64 s0, .int .i64 s1]⟩ :: (⟨b13, 41, #[.slice e0 g0.length f0, .slice e1 g1.length f1]⟩ :: ([⟨w.heap.size + 2, 41, (bif L 7 then #[.slice e0 g0.length f0, .slice e1 g1.length f1] else #[.slice none 0 0, .slice none 0 0])⟩, ⟨w.heap.size + 1, 22, (bif L 6 then #[.int .i64 s0, .int .i64 s1] else #[.int .i64 0, .int .i64 0])⟩, ⟨w.heap.size, 22, #[.int .i64 dx, .int .i64 dy]⟩] ++ (Bw ++ (B0 ++ B1))))) X p T q U) () (by kernel_rfl) (by kernel_rfl) (by rfl) HS.out.drew ?_ ⟨?_, ?_, ?_, ?_, ?_, ?_, ?_, ?_, trivial⟩
        rotate_left
        iterate 6 (· (intro L x W hW hC hL hd K hK; (try simp [depsB, Region.binds] at hd); (try simp only [Nat.reduceAdd] at hK hL); simp only [ovl, Array.getD_eq_getD_getElem?, List.getElem?_toArray, List.getElem?_cons_succ, List.getElem?_cons_zero, Option.getD_some, List.setIfInBounds_toArray, List.set_cons_zero, List.set_cons_succ]; (try simp only [hd, cond_true, cond_false]); (have hW0 := hW); (have hb1 : HasBlk W b12 22 #[.int .i64 s0, .int .i64 s1] := hW.has (List.mem_cons_self ..)); (have k0 := hb1.cell 0); (have k1 := hb1.cell 1); (have l1 := hb1.lt); (have hb2 : HasBlk W b13 41 #[.slice e0 g0.length f0, .slice e1 g1.length f1] := hW.has (List.mem_cons_of_mem _ (List.mem_cons_self ..))); (have j0 := hb2.cell 0); (have j1 := hb2.cell 1); (have l2 := hb2.lt); clear hb1 hb2; clear hW; go_simp; (have h := hK () W hW0); simp only [ovl, Array.getD_eq_getD_getElem?, List.getElem?_toArray, List.getElem?_cons_succ, List.getElem?_cons_zero, Option.getD_some, List.setIfInBounds_toArray, List.set_cons_zero, List.set_cons_succ] at h; (try simp (decide := true) only [upd, hd, cond_true, cond_false, Bool.true_or, Bool.false_or, decide_true, decide_false] at h); exact h))
        · intro L x W hW hC hL hd K hK; (try simp [depsB, Region.binds] at hd); (try simp only [Nat.reduceAdd] at hK hL)
          simp only [hL, cond_false] at hW
          simp only [ovl, Array.getD_eq_getD_getElem?, List.getElem?_toArray, List.getElem?_cons_succ, List.getElem?_cons_zero, Option.getD_some, List.setIfInBounds_toArray, List.set_cons_zero, List.set_cons_succ]; (try simp only [hd, cond_true, cond_false])
          have s5 : S2C W w0 (⟨w.heap.size + 1, 22, #[.int .i64 0, .int .i64 0]⟩ :: (⟨b12, 22, #[.int .i64 s0, .int .i64 s1]⟩ :: (⟨b13, 41, #[.slice e0 g0.length f0, .slice e1 g1.length f1]⟩ :: ([⟨w.heap.size + 2, 41, (bif L 7 then #[.slice e0 g0.length f0, .slice e1 g1.length f1] else #[.slice none 0 0, .slice none 0 0])⟩, ⟨w.heap.size, 22, #[.int .i64 dx, .int .i64 dy]⟩] ++ (Bw ++ (B0 ++ B1)))))) X p T q U := hW.permC (perm_cnt fun x => by simp only [cnt_append, cnt_cons, cnt_nil] <;> omega)
          refine s5.storeK 22 (.tmp 6) (.tmp 180) (by rfl) (by rfl) #[.int .i64 s0, .int .i64 s1] (by rfl) (by kernel_rfl) (by rfl) (by simp [Value.oneCell']) (fun W5 s6 => ?_)
          have s7 : S2C W5 w0 (⟨b12, 22, #[.int .i64 s0, .int .i64 s1]⟩ :: (⟨b13, 41, #[.slice e0 g0.length f0, .slice e1 g1.length f1]⟩ :: ([⟨w.heap.size + 2, 41, (bif L 7 then #[.slice e0 g0.length f0, .slice e1 g1.length f1] else #[.slice none 0 0, .slice none 0 0])⟩, ⟨w.heap.size + 1, 22, #[.int .i64 s0, .int .i64 s1]⟩, ⟨w.heap.size, 22, #[.int .i64 dx, .int .i64 dy]⟩] ++ (Bw ++ (B0 ++ B1))))) X p T q U := s6.permC (perm_cnt fun x => by simp only [cnt_append, cnt_cons, cnt_nil] <;> omega)
          (have h := hK () W5 s7); simp only [ovl, Array.getD_eq_getD_getElem?, List.getElem?_toArray, List.getElem?_cons_succ, List.getElem?_cons_zero, Option.getD_some, List.setIfInBounds_toArray, List.set_cons_zero, List.set_cons_succ] at h; (try simp (decide := true) only [upd, hd, cond_true, cond_false, Bool.true_or, Bool.false_or, decide_true, decide_false] at h); exact h
        · intro L x W hW hC hL hd K hK; (try simp [depsB, Region.binds] at hd); (try simp only [Nat.reduceAdd] at hK hL)
          simp only [hL, cond_false] at hW
          simp only [ovl, Array.getD_eq_getD_getElem?, List.getElem?_toArray, List.getElem?_cons_succ, List.getElem?_cons_zero, Option.getD_some, List.setIfInBounds_toArray, List.set_cons_zero, List.set_cons_succ]; (try simp only [hd, cond_true, cond_false])
          have s5 : S2C W w0 (⟨w.heap.size + 2, 41, #[.slice none 0 0, .slice none 0 0]⟩ :: (⟨b12, 22, #[.int .i64 s0, .int .i64 s1]⟩ :: (⟨b13, 41, #[.slice e0 g0.length f0, .slice e1 g1.length f1]⟩ :: ([⟨w.heap.size + 1, 22, (bif L 6 then #[.int .i64 s0, .int .i64 s1] else #[.int .i64 0, .int .i64 0])⟩, ⟨w.heap.size, 22, #[.int .i64 dx, .int .i64 dy]⟩] ++ (Bw ++ (B0 ++ B1)))))) X p T q U := hW.permC (perm_cnt fun x => by simp only [cnt_append, cnt_cons, cnt_nil] <;> omega)
          refine s5.storeK 41 (.tmp 7) (.tmp 181) (by rfl) (by rfl) #[.slice e0 g0.length f0, .slice e1 g1.length f1] (by rfl) (by kernel_rfl) (by rfl) (by simp [Value.oneCell']) (fun W5 s6 => ?_)
          have s7 : S2C W5 w0 (⟨b12, 22, #[.int .i64 s0, .int .i64 s1]⟩ :: (⟨b13, 41, #[.slice e0 g0.length f0, .slice e1 g1.length f1]⟩ :: ([⟨w.heap.size + 2, 41, #[.slice e0 g0.length f0, .slice e1 g1.length f1]⟩, ⟨w.heap.size + 1, 22, (bif L 6 then #[.int .i64 s0, .int .i64 s1] else #[.int .i64 0, .int .i64 0])⟩, ⟨w.heap.size, 22, #[.int .i64 dx, .int .i64 dy]⟩] ++ (Bw ++ (B0 ++ B1))))) X p T q U := s6.permC (perm_cnt fun x => by simp only [cnt_append, cnt_cons, cnt_nil] <;> omega)
          (have h := hK () W5 s7); simp only [ovl, Array.getD_eq_getD_getElem?, List.getElem?_toArray, List.getElem?_cons_succ, List.getElem?_cons_zero, Option.getD_some, List.setIfInBounds_toArray, List.set_cons_zero, List.set_cons_succ] at h; (try simp (decide := true) only [upd, hd, cond_true, cond_false, Bool.true_or, Bool.false_or, decide_true, decide_false] at h); exact h
        intro xx W9 hW9
        simp only [ovl, cond_true, Array.getD_eq_getD_getElem?, List.getElem?_toArray, List.getElem?_cons_succ, List.getElem?_cons_zero, Option.getD_some, List.setIfInBounds_toArray, List.set_cons_zero, List.set_cons_succ]
        simp only [cond_true] at hW9
        have hb6 := hW9.has (b := w.heap.size + 1) (t := 22) (cs := #[.int .i64 s0, .int .i64 s1]) (by simp)
        have hb7 := hW9.has (b := w.heap.size + 2) (t := 41) (cs := #[.slice e0 g0.length f0, .slice e1 g1.length f1]) (by simp)
        have m0 := hb6.cell 0
        have m1 := hb6.cell 1
        have m2 := hb7.cell 0
        have m3 := hb7.cell 1
        have HW9 := Lib.hid hW9
        clear hb6 hb7 hW9
        go_wp2
        refine bodyPost_ret (v := .tuple #[ptr p, ptr q, .agg #[.int .i64 s0, .int .i64 s1], .agg #[.slice e0 g0.length f0, .slice e1 g1.length f1]]) (by simp [results, Try.results16, go_sem, m0, m1, m2, m3]) rfl ?_
        exact ⟨p, q, b12, b13, T, U, s0, s1, _, _, _, g0, g1, pk, n, _, rfl, hn, ⟨X, Bw, B0, B1, us0, us1, HW9.out, HRw.out, HMw.out, HR0.out, HM0.out, HR1.out, HM1.out⟩, HI.out, HgT.out, HgU.out⟩


end Go.Proofs.Ytgjodjkmefdilaa
