/- talk: all contracts of a Talker in one form. -/
import Derived.Test.YtgjodjkmefdilaaTn
import Derived.Test.YtgjodjkmefdilaaTq
namespace Go.Proofs.Ytgjodjkmefdilaa
set_option linter.unusedSimpArgs false
set_option linter.unusedVariables false
open Go.RowKit

set_option maxRecDepth 100000 in
set_option maxHeartbeats 1000000 in
theorem say_nil (v : Value) (w : World) : Calls Try.prog 22 #[.pointer none, v] w fun e w' => e = .returned (.int .i64 1) ∧ w' = w := by
  go_enter Try.func22, Try.ntmps22
  go_wp2
  go_ret
  exact ⟨rfl, rfl⟩
set_option maxRecDepth 100000 in
set_option maxHeartbeats 1000000 in
theorem say_long (p : Nat) (v : Value) (m : List UInt8) (hm : 4096 < m.length) (w : World) (hv : BSl w v m) :
    Calls Try.prog 22 #[ptr p, v] w fun e w' => e = .returned (.int .i64 5) ∧ w' = w := by
  obtain ⟨ao1, cap1, rfl, -⟩ := hv.open_
  have hd : decide ((4096 : Int) < (m.length : Int)) = true := decide_eq_true (by omega)
  clear hv
  go_enter Try.func22, Try.ntmps22
  go_wp2
  go_ret
  exact ⟨rfl, rfl⟩
set_option maxRecDepth 100000 in
set_option maxHeartbeats 1000000 in
theorem say_full (p : Nat) (T : TS) (B F L : List Blk) (v : Value) (m : List UInt8) (hm : m.length ≤ 4096) (hw : T.most ≤ T.waits.length) (w w0 : World) (O : Ow w w0 (B ++ F)) (hT : TkB w0 L p T B) (hv : BSl w v m) :
    Calls Try.prog 22 #[ptr p, v] w fun e w' => e = .returned (.int .i64 8) ∧ Ow w' w [] := by
  obtain ⟨vw, ws, Bw, vg, gs, Bg, Rw, Mw, Rg, Mg, O', HB, -⟩ := hT.open_ O
  have c0 := HB.cell 0
  have c2 := HB.cell 2
  have hlt := HB.lt
  obtain ⟨ao, cap, rfl⟩ := Rw.slice
  simp only [tcs] at c0 c2
  obtain ⟨ao1, cap1, rfl, -⟩ := hv.open_
  have hd : decide ((4096 : Int) < (m.length : Int)) = false := decide_eq_false (by omega)
  have hd2 : decide ((T.most : Int) ≤ (T.waits.length : Int)) = true := decide_eq_true (by omega)
  have HS := Lib.hid (Ow.start w)
  clear O O' HB Rw Mw Rg Mg hT hv
  go_enter Try.func22, Try.ntmps22
  go_wp2
  refine wp_region_rq (by kernel_rfl) (by kernel_rfl) (by kernel_rfl) ?_
  repeat (first
    | (refine B_skip ?_ ?_; (· rfl); (try simp only [Act.put, List.setIfInBounds_toArray, List.set_cons_zero, List.set_cons_succ]))
    | (refine B_move rfl ?_ ?_; (· rfl); (try simp only [Act.eval, Act.put, Array.getD_eq_getD_getElem?, List.getElem?_toArray, List.getElem?_cons_succ, List.getElem?_cons_zero, Option.getD_some, List.setIfInBounds_toArray, List.set_cons_zero, List.set_cons_succ]))
    | (refine B_plain ?_ ?_; (· rfl); intro K hK; go_big_quiet_op; with_reducible refine hK _ ?_; clear hK K)
    | (refine B_nilck rfl rfl ?_ ?_; (· rfl); (try simp only [Act.put, List.setIfInBounds_toArray, List.set_cons_zero, List.set_cons_succ])))
  refine B_nil ?_ rfl ?_ ?_
  · kernel_rfl
  · rfl
  rintro _ ⟨⟨g1, d1⟩, rfl⟩
  simp only [fin, Act.put, List.setIfInBounds_toArray, List.set_cons_zero, List.set_cons_succ]
  go_wp2
  go_ret
  exact ⟨rfl, HS.out.plus _ _⟩
theorem TW.mono {b c : Nat} {T : TS} (h : TW b T) (hb : b ≤ c) : TW c T := ⟨h.most, h.most0, h.again, h.waits, h.gone, Nat.le_trans h.said hb, h.le, Nat.le_trans h.heard hb, h.last, Nat.le_trans h.got hb, h.wlen, h.glen⟩
/-- Say, of whatever message. -/
theorem say_any (p : Nat) (T : TS) (B F L : List Blk) (v : Value) (m : List UInt8) (w w0 : World) (O : Ow w w0 (B ++ F)) (hT : TkB w0 L p T B) (hL : ∀ x ∈ L, x ∈ F) (hv : BSl w v m) (hW : TW 1000000 T) (E : Nat) (hE : sayE T m = E) (T' : TS) (hT' : sayT T m = T') :
    Calls Try.prog 22 #[ptr p, v] w fun e w' => e = .returned (.int .i64 E) ∧ ∃ N B', Ow w' w0 (B' ++ (N ++ F)) ∧ TkB w0 (N ++ L) p T' B' := by
  subst hE hT'
  unfold sayE sayT
  by_cases h1 : 4096 < m.length
  · rw [if_pos h1, if_pos h1]
    refine (say_long p v m h1 w hv).mono ?_
    rintro e w' ⟨rfl, rfl⟩
    exact ⟨rfl, [], B, O, hT⟩
  · rw [if_neg h1, if_neg h1]
    by_cases h2 : T.most ≤ T.waits.length
    · rw [if_pos h2, if_pos h2]
      refine (say_full p T B F L v m (by omega) h2 w w0 O hT hv).mono ?_
      rintro e w' ⟨rfl, O'⟩
      exact ⟨rfl, [], B, O.of_below O'.below, hT⟩
    · rw [if_neg h2, if_neg h2]
      exact say_ok p T B F L v m (by omega) (by omega) hW.most hW.said w w0 O hL hT hv _ rfl
theorem wpList_store_ow {P : Program} {w w0 : World} {ops : Array Oper} {rest : List Oper} {o : Oper} {a : Act} {Q : Exit → Act → World → Prop} (hgd : o.guard = none) (ty : TypeId) (x y : Operand) (ho : o.op = .store ty x y) {L : List Blk} {b : Nat} {t : TypeId} {cs : Array Value} (O : Ow w w0 (⟨b, t, cs⟩ :: L))
    (hx : a.eval x = .pointer (some ⟨b, 0, none⟩)) (vs : Array Value) (hy : a.eval y = .agg vs) (hi : (P.info? ty).map (·.size) = some cs.size) (hs : vs.size = cs.size) (h1 : ∀ v ∈ vs.toList, v.oneCell' = true)
    (h : ∀ w', Ow w' w0 (⟨b, t, vs⟩ :: L) → wpList P ops Q rest (a.put o.dst undef) w') : wpList P ops Q (o :: rest) a w :=
  wpList_store_blk (B := []) hgd ty x y ho O.mem hx vs hy hi hs h1 fun w' M' => h w' ⟨M', New.cons (O.new ⟨b, t, cs⟩ (List.mem_cons_self ..)) fun x hx => O.new x (List.mem_cons_of_mem _ hx)⟩
theorem newT_ok (a b : Nat) (ha : 1 ≤ a) (ha2 : a ≤ 64) (hb : b ≤ 1000) (c : Nat) : TW c (newT a b) :=
  ⟨ha2, ha, hb, by simp [newT], by simp [newT], by simp [newT], by simp [newT], by simp [newT], by simp [newT], by simp [newT], by simp [newT], by simp [newT]⟩
theorem TW.say {b : Nat} {T : TS} (h : TW b T) (m : List UInt8) : TW (b + 1) (sayT T m) := by
  unfold sayT
  by_cases h1 : 4096 < m.length
  · rw [if_pos h1]; exact h.mono (by omega)
  · rw [if_neg h1]
    by_cases h2 : T.most ≤ T.waits.length
    · rw [if_pos h2]; exact h.mono (by omega)
    · rw [if_neg h2]
      have := h.gone; have := h.said; have := h.le; have := h.heard; have := h.got
      refine ⟨h.most, h.most0, h.again, by simp; omega, by simp; omega, by simp; omega, by simp; omega, by simp; omega, h.last, by simp; omega, fun x hx => ?_, h.glen⟩
      simp at hx
      rcases hx with hx | rfl
      · exact h.wlen x hx
      · omega
theorem TW.tick {b : Nat} {T : TS} (h : TW b T) (now : Nat) (hn : now ≤ 4611686018427387904) : TW b (tickT T now) :=
  ⟨h.most, h.most0, h.again, h.waits, Nat.le_refl _, h.said, h.le, h.heard, hn, h.got, h.wlen, h.glen⟩
theorem TW.gotten {b : Nat} {T : TS} (h : TW b T) : TW b (gotT T) :=
  ⟨h.most, h.most0, h.again, h.waits, h.gone, h.said, h.le, h.heard, h.last, by simp [gotT], h.wlen, by simp [gotT]⟩
theorem TW.afterA {b : Nat} {T : TS} (h : TW b T) (he : Nat) (hhe : he ≤ T.said) : TW b (hearA T he) := by
  unfold hearA
  split
  · have := h.gone; have := h.le; have := h.waits; have := h.said
    refine ⟨h.most, h.most0, h.again, ?_, ?_, h.said, ?_, h.heard, h.last, h.got, fun x hx => h.wlen x (List.mem_of_mem_drop hx), h.glen⟩ <;> simp <;> omega
  · exact h
theorem TW.afterB {b : Nat} {T : TS} (h : TW b T) (ms : List (List UInt8)) : TW b (hearB T ms) := by
  unfold hearB
  split
  · exact ⟨h.most, h.most0, h.again, h.waits, h.gone, h.said, h.le, h.heard, h.last, h.got, h.wlen, h.glen⟩
  · exact h
theorem TW.afterHear {b : Nat} {T : TS} (h : TW b T) (fi : Nat) (ms : List (List UInt8)) (he : Nat) (hhe : he ≤ T.said) (hn : ms.length ≤ 64) (hms : ∀ m ∈ ms, m.length ≤ 4096) : TW (b + 64) (hearT T fi ms he) := by
  have h2 := (h.afterA he hhe).afterB ms
  unfold hearT
  have e1 : (hearA T he).heard = T.heard := by unfold hearA; split <;> rfl
  have e2 : (hearB (hearA T he) ms).heard = T.heard := by rw [← e1]; unfold hearB; split <;> rfl
  split
  · exact h2.mono (by omega)
  · rename_i hc
    have k1 := h2.heard; have k2 := h2.got; have k3 := h2.said
    unfold hearC
    refine ⟨h2.most, h2.most0, h2.again, h2.waits, h2.gone, Nat.le_trans h2.said (by omega), h2.le, ?_, h2.last, ?_, h2.wlen, fun x hx => ?_⟩
    · simp; omega
    · simp; omega
    · rcases List.mem_append.1 hx with hx | hx
      · exact h2.glen x hx
      · exact hms x (List.mem_of_mem_drop hx)

end Go.Proofs.Ytgjodjkmefdilaa
