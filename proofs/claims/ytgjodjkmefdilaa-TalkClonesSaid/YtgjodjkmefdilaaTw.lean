/- talk: contracts of a Talker beside others. -/
import Derived.Test.YtgjodjkmefdilaaTb
namespace Go.Proofs.Ytgjodjkmefdilaa
set_option linter.unusedSimpArgs false
set_option linter.unusedVariables false
open Go.RowKit

/-- A Talker p that is T, beside the blocks C (of another one), and X. -/
def S1 (w w0 : World) (C X : List Blk) (p : Nat) (T : TS) : Prop := ∃ A, Ow w w0 (A ++ (C ++ X)) ∧ TkB w0 X p T A
def Sub (X Y : List Blk) : Prop := ∀ x ∈ X, x ∈ Y
theorem Sub.refl (X : List Blk) : Sub X X := fun _ h => h
theorem Sub.trans {X Y Z : List Blk} (h : Sub X Y) (k : Sub Y Z) : Sub X Z := fun x hx => k x (h x hx)
theorem Sub.app (N X : List Blk) : Sub X (N ++ X) := fun x hx => by simp [hx]
section
variable {w w0 : World} {C X : List Blk} {p : Nat} {T : TS}
theorem S1.of_below {w' : World} (h : S1 w w0 C X p T) (hb : Below w.heap.size w w') : S1 w' w0 C X p T := by
  obtain ⟨A, O, t⟩ := h; exact ⟨A, O.of_below hb, t⟩
theorem S1.plus (h : S1 w w0 C X p T) (g : Array Obj) (d : Nat) : S1 (Go.Proofs.Ytgjodjkmefdilaa.plus w g d) w0 C X p T := by
  obtain ⟨A, O, t⟩ := h; exact ⟨A, O.plus g d, t⟩
theorem S1.alloc (h : S1 w w0 C X p T) (o : Obj) : S1 (w.alloc o) w0 C X p T := by
  obtain ⟨A, O, t⟩ := h; exact ⟨A, O.alloc o, t⟩
theorem S1.below (h : S1 w w0 C X p T) : Below w0.heap.size w0 w := by
  obtain ⟨A, O, t⟩ := h; exact O.below
theorem S1.ow (h : S1 w w0 C X p T) : ∃ Y, Ow w w0 Y ∧ Sub X Y := by
  obtain ⟨A, O, t⟩ := h; exact ⟨_, O, fun x hx => by simp [hx]⟩
theorem S1.bsl (h : S1 w w0 C X p T) {v : Value} {m : List UInt8} (hm : Msg w0 X v m) : BSl w v m := by
  obtain ⟨Y, O, hs⟩ := h.ow; exact hm.bsl O hs
theorem S1.here (h : S1 w w0 C X p T) {v : Value} {ms : List (List UInt8)} (hm : MsgL w0 X v ms) : MsgL w [] v ms := by
  obtain ⟨Y, O, hs⟩ := h.ow; exact hm.here O hs
theorem MsgL.sub {Y : List Blk} {v : Value} {ms : List (List UInt8)} (hm : MsgL w0 X v ms) (h : Sub X Y) : MsgL w0 Y v ms := hm.mono h

theorem S1.say (h : S1 w w0 C X p T) (v : Value) (m : List UInt8) (hv : BSl w v m) (hW : TW 1000000 T) (E : Nat) (hE : sayE T m = E) (T' : TS) (hT' : sayT T m = T') :
    Calls Try.prog 22 #[ptr p, v] w fun e w' => e = .returned (.int .i64 E) ∧ ∃ X', Sub X X' ∧ S1 w' w0 C X' p T' := by
  obtain ⟨A, O, t⟩ := h
  refine (say_any p T A (C ++ X) X v m w w0 O t (fun x hx => by simp [hx]) hv hW E hE T' hT').mono ?_
  rintro e w' ⟨rfl, N, B', O', t'⟩
  exact ⟨rfl, N ++ X, Sub.app N X, B', O'.perm (perm_cnt fun x => by simp only [cnt_append, cnt_cons, cnt_nil] <;> omega), t'⟩
theorem S1.tickNo (h : S1 w w0 C X p T) (now : Nat) (hn : now ≤ 4611686018427387904) (hW : TW 1000000 T) (hd : dueT T now = false) :
    Calls Try.prog 19 #[ptr p, .int .i64 now] w fun e w' => e = .returned (.tuple #[.agg #[.int .i64 0, .slice none 0 0, .int .i64 0], .bool false]) ∧ S1 w' w0 C X p T := by
  obtain ⟨A, O, t⟩ := h
  refine (tick_no p T A (C ++ X) X w w0 O t now hn hW hd).mono ?_
  rintro e w' ⟨rfl, hb⟩
  exact ⟨rfl, A, O.of_below hb, t⟩
theorem S1.tickYes (h : S1 w w0 C X p T) (now : Nat) (hn : now ≤ 4611686018427387904) (hW : TW 1000000 T) (hd : dueT T now = true) (fi hd' : Nat) (hfi : T.said - T.waits.length = fi) (hhd : T.heard = hd') (ms : List (List UInt8)) (hms : T.waits = ms) (T' : TS) (hT' : tickT T now = T') :
    Calls Try.prog 19 #[ptr p, .int .i64 now] w fun e w' => ∃ u X', e = .returned (.tuple #[.agg #[.int .i64 fi, u, .int .i64 hd'], .bool true]) ∧ Sub X X' ∧ S1 w' w0 C X' p T' ∧ MsgL w0 X' u ms := by
  subst hfi hhd hms hT'
  obtain ⟨A, O, t⟩ := h
  refine (tick_yes p T A (C ++ X) X w w0 O t (fun x hx => by simp [hx]) now hn hW hd).mono ?_
  rintro e w' ⟨u, us, D, N, B', rfl, O', t', R, M⟩
  exact ⟨u, D ++ (N ++ X), rfl, fun x hx => by simp [hx], ⟨B', O'.perm (perm_cnt fun x => by simp only [cnt_append, cnt_cons, cnt_nil] <;> omega), t'.mono (fun x hx => by simp [hx])⟩, (R.msgl (M w0)).mono (fun x hx => by
    rcases List.mem_append.1 hx with hx | hx <;> simp [hx])⟩
theorem S1.hearNo (h : S1 w w0 C X p T) (fi he : Int) (v : Value) (ms : List (List UInt8)) (hn : ms.length ≤ 1000000000) (hv : MsgL w [] v ms) (hb : rightT T fi ms he = false) :
    Calls Try.prog 20 #[ptr p, .agg #[.int .i64 fi, v, .int .i64 he]] w fun e w' => e = .returned (.int .i64 2) ∧ S1 w' w0 C X p T := by
  obtain ⟨A, O, t⟩ := h
  refine (hear_no p T A (C ++ X) X w w0 O t fi he v ms hn hv hb).mono ?_
  rintro e w' ⟨rfl, hb⟩
  exact ⟨rfl, A, O.of_below hb.below, t⟩
theorem rightT_out {T : TS} {fi : Int} {ms : List (List UInt8)} {he : Int} (h : rightT T fi ms he = true) : ∃ f g : Nat, fi = f ∧ he = g ∧ g ≤ T.said ∧ ms.length ≤ 64 ∧ ∀ m ∈ ms, m.length ≤ 4096 := by
  unfold rightT longL at h
  simp only [Bool.and_eq_true, decide_eq_true_eq, Bool.not_eq_true', List.any_eq_false] at h
  obtain ⟨⟨⟨⟨h1, h2⟩, h3⟩, h4⟩, h5⟩ := h
  refine ⟨fi.toNat, he.toNat, by omega, by omega, by omega, h3, fun m hm => ?_⟩
  have := h4 m hm
  omega
theorem S1.hearYes (h : S1 w w0 C X p T) (fi he : Nat) (v : Value) (ms : List (List UInt8)) (hv : MsgL w0 X v ms) (hfi : fi ≤ 9223372036854775807) (hW : TW 1000000 T) (hb : rightT T fi ms he = true) (T' : TS) (hT' : hearT T fi ms he = T') (c : Int) (hc : (if T.heard < fi then 20 else 0 : Int) = c) :
    Calls Try.prog 20 #[ptr p, .agg #[.int .i64 fi, v, .int .i64 he]] w fun e w' => e = .returned (.int .i64 c) ∧ ∃ X', Sub X X' ∧ S1 w' w0 C X' p T' := by
  obtain ⟨f, g, h1, h2, h3, h4, h5⟩ := rightT_out hb
  obtain ⟨A, O, t⟩ := h
  refine (hear_yes p T A (C ++ X) X X w w0 O t (fun x hx => by simp [hx]) fi he v ms h4 hv (fun x hx => by simp [hx]) (getD_len h5) hfi hW hb (by omega) T' hT' c hc).mono ?_
  rintro e w' ⟨rfl, N, B', O', t'⟩
  exact ⟨rfl, N ++ X, Sub.app N X, B', O'.perm (perm_cnt fun x => by simp only [cnt_append, cnt_cons, cnt_nil] <;> omega), t'⟩
theorem S1.got (h : S1 w w0 C X p T) (T' : TS) (hT' : gotT T = T') (ms : List (List UInt8)) (hms : T.got = ms) :
    Calls Try.prog 21 #[ptr p] w fun e w' => ∃ v X', e = .returned v ∧ Sub X X' ∧ S1 w' w0 C X' p T' ∧ MsgL w0 X' v ms := by
  subst hT' hms
  obtain ⟨A, O, t⟩ := h
  refine (got_to p T A (C ++ X) X w w0 O t).mono ?_
  rintro e w' ⟨v, N, B', rfl, O', t', M⟩
  exact ⟨v, N ++ X, rfl, Sub.app N X, ⟨B', O'.perm (perm_cnt fun x => by simp only [cnt_append, cnt_cons, cnt_nil] <;> omega), t'.mono (Sub.app N X)⟩, M⟩
theorem S1.idle (h : S1 w w0 C X p T) (b : Bool) (hb : (T.waits.length == 0) = b) :
    Calls Try.prog 15 #[ptr p] w fun e w' => e = .returned (.bool b) ∧ w' = w := by
  obtain ⟨A, O, t⟩ := h
  exact idle_to p T A (C ++ X) X w w0 O t b hb
theorem S1.clone (h : S1 w w0 C X p T) (hW : TW 1000000 T) :
    Calls Try.prog 25 #[ptr p] w fun e w' => ∃ q X' A D, e = .returned (ptr q) ∧ Sub X X' ∧ Ow w' w0 (A ++ (D ++ (C ++ X'))) ∧ TkB w0 X' p T A ∧ TkB w0 X' q T D := by
  obtain ⟨A, O, t⟩ := h
  refine (tclone_to p T A (C ++ X) X w w0 O t (fun x hx => by simp [hx]) hW).mono ?_
  rintro e w' ⟨q, D, N, rfl, O', t'⟩
  exact ⟨q, N ++ X, A, D, rfl, Sub.app N X, O'.perm (perm_cnt fun x => by simp only [cnt_append, cnt_cons, cnt_nil] <;> omega), t.mono (Sub.app N X), t'.mono (fun x hx => by simp [hx])⟩
end

/-- Two Talkers. -/
def S2 (w w0 : World) (X : List Blk) (p : Nat) (T : TS) (q : Nat) (U : TS) : Prop := ∃ C, S1 w w0 C X p T ∧ TkB w0 X q U C
section
variable {w w0 : World} {X : List Blk} {p q : Nat} {T U : TS}
theorem S2.swap (h : S2 w w0 X p T q U) : S2 w w0 X q U p T := by
  obtain ⟨C, ⟨A, O, t⟩, u⟩ := h
  exact ⟨A, ⟨C, O.perm (perm_cnt fun x => by simp only [cnt_append, cnt_cons, cnt_nil] <;> omega), u⟩, t⟩
theorem S2.of_below {w' : World} (h : S2 w w0 X p T q U) (hb : Below w.heap.size w w') : S2 w' w0 X p T q U := by
  obtain ⟨C, s, u⟩ := h; exact ⟨C, s.of_below hb, u⟩
theorem S2.key (h : S2 w w0 X p T q U) (cs : Array Value) (t : TypeId) (b : Nat) (hb : b = w.heap.size) : S2 (w.alloc (.cells cs t)) w0 (⟨b, t, cs⟩ :: X) p T q U := by
  obtain ⟨C, ⟨A, O, t1⟩, u⟩ := h
  exact ⟨C, ⟨A, (O.key cs t b hb).perm (perm_cnt fun x => by simp only [cnt_append, cnt_cons, cnt_nil] <;> omega), t1.mono fun x hx => by simp [hx]⟩, u.mono fun x hx => by simp [hx]⟩
theorem S2.has (h : S2 w w0 X p T q U) {b : Nat} {t : TypeId} {cs : Array Value} (hx : (⟨b, t, cs⟩ : Blk) ∈ X) : HasBlk w b t cs := by
  obtain ⟨C, ⟨A, O, t1⟩, u⟩ := h
  exact O.has (by simp [hx])
theorem S2.ow (h : S2 w w0 X p T q U) : ∃ Y, Ow w w0 Y ∧ Sub X Y := by
  obtain ⟨C, s, u⟩ := h; exact s.ow
theorem S2.here (h : S2 w w0 X p T q U) {v : Value} {ms : List (List UInt8)} (hm : MsgL w0 X v ms) : MsgL w [] v ms := by
  obtain ⟨C, s, u⟩ := h; exact s.here hm
theorem S2.below (h : S2 w w0 X p T q U) : Below w0.heap.size w0 w := by
  obtain ⟨C, s, u⟩ := h; exact s.below
theorem S2.alloc (h : S2 w w0 X p T q U) (o : Obj) : S2 (w.alloc o) w0 X p T q U := h.of_below (balloc (Below.refl _ _) o)
theorem S2.left (h : S2 w w0 X p T q U) : ∃ C, S1 w w0 C X p T := by
  obtain ⟨C, s, u⟩ := h; exact ⟨C, s⟩
end

end Go.Proofs.Ytgjodjkmefdilaa
