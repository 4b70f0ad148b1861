/- talk: contract of copied; lists of messages in memory of the call's own. -/
import Derived.Test.YtgjodjkmefdilaaTy
namespace Go.Proofs.Ytgjodjkmefdilaa
set_option linter.unusedSimpArgs false
set_option linter.unusedVariables false
open Go.RowKit

/-- A list of messages, all in blocks of the call's own. -/
def CloL (base : Nat) (ms : List (List UInt8)) : Pred := fun u W => ∃ us B N, Row 34 1 u ms.length us B ∧ (B ++ N).Pairwise (fun x y => x.no ≠ y.no) ∧ (∀ x ∈ B ++ N, base ≤ x.no ∧ HasBlk W x.no x.ty x.cs) ∧ ∀ w0, Msgs w0 N us ms
theorem stays_cloL (base : Nat) (ms : List (List UInt8)) : Stays (CloL base ms) := fun v w w' ⟨x, hx⟩ ⟨us, B, N, h1, h2, h3, h4⟩ =>
  ⟨us, B, N, h1, h2, fun y hy => ⟨(h3 y hy).1, by rw [hx]; exact (h3 y hy).2.plus _ _⟩, h4⟩
theorem CloL.base {base base' : Nat} {ms : List (List UInt8)} {u : Value} {W : World} (h : CloL base ms u W) (hb : base' ≤ base) : CloL base' ms u W := by
  obtain ⟨us, B, N, h1, h2, h3, h4⟩ := h
  exact ⟨us, B, N, h1, h2, fun x hx => ⟨Nat.le_trans hb (h3 x hx).1, (h3 x hx).2⟩, h4⟩
theorem CloL.found {w w0 W : World} {L : List Blk} {ms : List (List UInt8)} {u : Value} (h : CloL W.heap.size ms u w) (M : Ow W w0 L) (hx : Ext W w) : ∃ us B N, Ow w w0 (B ++ (N ++ L)) ∧ Row 34 1 u ms.length us B ∧ ∀ w1, Msgs w1 N us ms := by
  obtain ⟨us, B, N, h1, h2, h3, h4⟩ := h
  refine ⟨us, B, N, ?_, h1, h4⟩
  rw [← List.append_assoc]
  exact M.found hx h2 h3
theorem Clo.found' {w w0 W : World} {L : List Blk} {l : List UInt8} {u : Value} {e : TypeId} (h : Clo e W.heap.size l u w) (M : Ow W w0 L) (hx : Ext W w) : ∃ B, Ow w w0 (B ++ L) ∧ ∀ w1, Msg w1 B u l := by
  obtain ⟨ao, cap, B, rfl, h1, h2⟩ := h
  exact ⟨B, M.found hx h1.apart h2, fun w1 => h1.msg w1⟩
/-- The same, told of the world as it is. -/
theorem Sl.here {w w0 : World} {L X : List Blk} {v : Value} {n : Nat} {xs : List Value} (h : Sl w0 L v n xs) (M : Ow w w0 X) (hL : ∀ x ∈ L, x ∈ X) : Sl w [] v n xs := by
  obtain ⟨h0, ao, cap, h1, h2, h3⟩ := h
  refine ⟨h0, ao, cap, h1, h2, h3.imp id ?_⟩
  rintro ⟨r, o, h4, h5⟩
  exact ⟨r, o, h4, .inl ⟨h5.lt M hL, fun j u hj => h5.get M hL j u hj⟩⟩
theorem Msgs.here {w w0 : World} {L X : List Blk} {vs : List Value} {ms : List (List UInt8)} (h : Msgs w0 L vs ms) (M : Ow w w0 X) (hL : ∀ x ∈ L, x ∈ X) : Msgs w [] vs ms := ⟨h.1, fun i v m hv hm => Sl.here (h.2 i v m hv hm) M hL⟩
theorem MsgL.here {w w0 : World} {L X : List Blk} {v : Value} {ms : List (List UInt8)} (h : MsgL w0 L v ms) (M : Ow w w0 X) (hL : ∀ x ∈ L, x ∈ X) : MsgL w [] v ms := by
  obtain ⟨vs, h1, h2⟩ := h
  exact ⟨vs, h1.here M hL, h2.here M hL⟩
theorem sub_nil {X : List Blk} : ∀ x ∈ ([] : List Blk), x ∈ X := fun x hx => by cases hx
/-- The k-th message, where it lies. -/
theorem MsgL.at_ {w w0 : World} {L X : List Blk} {ao : Option Addr} {n cap : Nat} {ms : List (List UInt8)} (h : MsgL w0 L (.slice ao n cap) ms) (M : Ow w w0 X) (hL : ∀ x ∈ L, x ∈ X) (k : Nat) (hk : k < ms.length) :
    ∃ r o ak ck, ao = some ⟨r, o, none⟩ ∧ r < w.heap.size ∧ w.cell? ⟨r, o + k, none⟩ = some (.slice ak (ms.getD k []).length ck) ∧ Msg w0 L (.slice ak (ms.getD k []).length ck) (ms.getD k []) := by
  obtain ⟨vs, h1, h2⟩ := h
  obtain ⟨r, o, e1, e2, e3⟩ := h1.open_ M hL (by omega)
  obtain ⟨u, hu, hm⟩ := h2.get k hk
  obtain ⟨ak, ck, rfl⟩ := hm.slice
  exact ⟨r, o, ak, ck, e1, e2, e3 k _ hu, hm⟩
theorem MsgL.len {w0 : World} {L : List Blk} {ao : Option Addr} {n cap : Nat} {ms : List (List UInt8)} (h : MsgL w0 L (.slice ao n cap) ms) : n = ms.length := by
  obtain ⟨vs, h1, -⟩ := h
  obtain ⟨a, c, e, -⟩ := h1.slice
  cases e; rfl
theorem MsgL.slice {w0 : World} {L : List Blk} {v : Value} {ms : List (List UInt8)} (h : MsgL w0 L v ms) : ∃ ao cap, v = .slice ao ms.length cap := by
  obtain ⟨vs, h1, -⟩ := h
  obtain ⟨a, c, e, -⟩ := h1.slice
  exact ⟨a, c, e⟩
theorem take_snoc {α : Type} (l : List α) (d : α) (k : Nat) (hk : k < l.length) : l.take (k + 1) = l.take k ++ [l.getD k d] := by
  rw [List.take_add_one, List.getD_eq_getElem?_getD, List.getElem?_eq_getElem hk]; rfl

set_option maxRecDepth 100000 in
set_option maxHeartbeats 2000000 in
theorem copied_any (v : Value) (ms : List (List UInt8)) (w : World) (hn : ms.length ≤ 1000000) (hlen : ∀ i, (ms.getD i []).length ≤ 1000000) (hv : MsgL w [] v ms) :
    Calls Try.prog 35 #[v] w fun e w' => ∃ u, e = .returned u ∧ Below w.heap.size w w' ∧ CloL w.heap.size ms u w' := by
  obtain ⟨ao, cap, rfl⟩ := hv.slice
  have HV := Lib.hid hv
  have HL := Lib.hid hlen
  have HS := Lib.hid (Ow.start w)
  clear hv hlen
  go_enter Try.func35, Try.ntmps35
  go_wp2_with fail
  go_loopw [3, 8] (fun c i wr => ∃ (k : Nat) (ac : Option Addr) (cc : Nat) (us : List Value) (B N : List Blk), i = .int .i64 k ∧ k ≤ ms.length ∧ c = .slice ac k cc ∧ Row 34 1 (.slice ac k cc) k us B ∧ Ow wr w (B ++ N) ∧ ∀ w1, Msgs w1 N us (ms.take k)) (fun _ i _ => ms.length - (intOf i).toNat)
  case atStart => exact ⟨0, none, 0, [], [], [], rfl, by omega, rfl, .void, HS.out, fun w1 => by rw [List.take_zero]; exact Msgs.nil _ _⟩
  case round =>
    obtain ⟨k, ac, cc, us, B, N, rfl, hk, rfl, R, O, MM⟩ := hrel
    have HR := Lib.hid R
    have HO := Lib.hid O
    have HMM := Lib.hid MM
    by_cases hlt : k < ms.length
    · obtain ⟨r, o, ak, ck, rfl, hr, hc, hm⟩ := HV.out.at_ O sub_nil k hlt
      have HB := Lib.hid (hm.bsl O sub_nil)
      have hkl := HL.out k
      obtain ⟨m, HMk⟩ : ∃ m, Hid (ms.getD k [] = m) := ⟨_, rfl⟩
      rw [HMk.out] at hc HB hkl
      clear R O MM hm
      go_wp2_with fail
      refine (cloneB_any _ m hkl _ HB.out).mono ?_
      rintro e w1 ⟨u, rfl, hb1, hc1⟩
      obtain ⟨NB, O1, M1⟩ := hc1.found' HO.out (Ext.of_below hb1)
      obtain ⟨au, cu, eu⟩ := (M1 w).slice
      subst eu
      have HMS := Lib.hid M1
      have O2 := (O1.alloc (.cells #[.slice au m.length cu] 34)).perm (L' := B ++ (NB ++ N)) (perm_cnt fun x => by simp only [cnt_append, cnt_cons, cnt_nil] <;> omega)
      have HO2 := Lib.hid O2
      have hcu : (w1.alloc (.cells #[.slice au m.length cu] 34)).cell? ⟨w1.heap.size, 0, none⟩ = some (.slice au m.length cu) := (HasBlk.new w1 34 #[.slice au m.length cu] w1.heap.size rfl).cell 0
      clear hb1 hc1 O1 M1 O2
      go_wp2_with (at_builtin; refine wpList_append_row rfl (.tmp 12) (.tmp 15) 25 rfl elt_msg HO2.out.mem HO2.out.split _ _ _ (by rfl) HR.out _ _ _ [.slice au m.length cu] (by rfl) (by simp) (by simp) (fun ad had j x hx => ?_) (by simp [Value.oneCell']) (by unfold maxLen; omega) (by omega) (k + 1) rfl (us ++ [.slice au m.length cu]) rfl (fun ao' cap' B' w' R' M' hB' => ?_); (· cases had; obtain rfl : j = 0 := by { have := (List.getElem?_eq_some_iff.1 hx).1; simp at this; exact this }; simp at hx; subst hx; exact hcu); (have HR1 := Lib.hid R'); (have HM1 := Lib.hid M'); (have HB1 := Lib.hid hB'); clear R' M' hB')
      refine ⟨⟨k + 1, ao', cap', _, B', NB ++ N, by simp, by omega, rfl, HR1.out, Ow.mk3 HM1.out HB1.out (fun x hx => HO2.out.new x (List.mem_append_right _ hx)), fun w1 => ?_⟩, by simp [intOf]; omega⟩
      rw [take_snoc ms [] k hlt, HMk.out]
      exact ((HMM.out w1).mono (by intro x hx; simp [hx])).snoc ((HMS.out w1).mono (by intro x hx; simp [hx]))
    · obtain rfl : k = ms.length := by omega
      clear R O MM
      go_wp2
      go_ret
      exact ⟨_, rfl, HO.out.below, us, B, N, HR.out, HO.out.mem.apart, fun x hx => ⟨HO.out.new x hx, HO.out.mem.has x hx⟩, by rw [List.take_length] at HMM; exact HMM.out⟩

end Go.Proofs.Ytgjodjkmefdilaa
