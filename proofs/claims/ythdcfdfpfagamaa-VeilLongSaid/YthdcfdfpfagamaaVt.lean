/- baizelaw08: few and told. -/
import Derived.Test.YthdcfdfpfagamaaVq
import Derived.Test.YthdcfdfpfagamaaRqm
import Derived.Lib.SlBytesConst
import Derived.Lib.UnsafeStr
namespace Go.Proofs.Ythdcfdfpfagamaa
set_option linter.unusedSimpArgs false
set_option linter.unusedVariables false
open Go.RowKit

theorem bsl_take {w : World} {ao : Option Addr} {N cap : Nat} {l : List UInt8} (h : BSl w (.slice ao N cap) l) (n : Nat) (hn : n ≤ l.length) : BSl w (.slice ao n cap) (l.take n) := by
  obtain ⟨ao', cap', e, ⟨h1, h2⟩, h3⟩ := h
  cases e
  have hl : (l.take n).length = n := by simp [hn]
  refine ⟨ao, cap, by rw [hl], ⟨by rw [hl]; omega, fun h => by have := h2 h; rw [hl]; omega⟩, ?_⟩
  rw [hl]
  rcases h3 with h3 | ⟨b, o, h3, h4, h5⟩
  · left; omega
  · refine .inr ⟨b, o, h3, h4, fun i hi => ?_⟩
    rw [h5 i (by omega)]
    simp [List.getD_eq_getElem?_getD, List.getElem?_take, hi]

set_option maxRecDepth 100000 in
theorem few_to (v : Value) (l : List UInt8) (hm : l.length ≤ 9223372036854775807) (x : List UInt8) (hx : l.take 300 = x) (w : World) (hv : BSl w v l) :
    Calls Try.prog 34 #[v] w fun e w' => ∃ u, e = .returned u ∧ w' = w ∧ BSl w u x := by
  obtain ⟨ao, cap, rfl, h1, h2, -⟩ := hv.open_
  subst hx
  by_cases h : l.length ≤ 300
  · have e1 : min (l.length : Int) 300 = (l.length : Int) := by omega
    have HV := Lib.hid hv
    clear hv
    go_enter Try.func34, Try.ntmps34
    go_wp2
    go_ret
    exact ⟨_, rfl, rfl, by rw [List.take_of_length_le h]; exact HV.out⟩
  · have e1 : min (l.length : Int) 300 = 300 := by omega
    have HV := Lib.hid (bsl_take hv 300 (by omega))
    clear hv
    go_enter Try.func34, Try.ntmps34
    go_wp2
    go_ret
    exact ⟨_, rfl, rfl, HV.out⟩

/-! ### told -/
def abL : List UInt8 := [97, 98]
def key0 : BitVec 64 := 197121#64
theorem key0_cells : (#[.int .u8 (by8 key0 0), .int .u8 (by8 key0 1), .int .u8 (by8 key0 2), .int .u8 (by8 key0 3), .int .u8 (by8 key0 4), .int .u8 (by8 key0 5), .int .u8 (by8 key0 6), .int .u8 (by8 key0 7)] : Array Value) = #[.int .u8 1, .int .u8 2, .int .u8 3, .int .u8 0, .int .u8 0, .int .u8 0, .int .u8 0, .int .u8 0] := by
  simp only [by8_eq, key0]
  rfl
theorem commit0 : commitF key0 abL ≠ 0#64 := by decide +kernel
theorem ab_new (W : World) : BSl (W.alloc (.cells #[.int .u8 97, .int .u8 98] 5)) (.slice (some ⟨W.heap.size, 0, none⟩) 2 2) abL := by
  refine ⟨_, 2, rfl, ⟨Nat.le_refl _, fun h => by cases h⟩, .inr ⟨_, 0, rfl, by simp, fun i hi => ?_⟩⟩
  rw [World.cell?_alloc_at _ _ _ _ rfl]
  match i, hi with
  | 0, _ => rfl
  | 1, _ => rfl

theorem ab_mark (W W' : World) (g : Nat) (hg : g = W.heap.size) (hW : W' = W.alloc (.cells #[.int .u8 97, .int .u8 98] 5 (2, 3))) : BSl W' (.slice (some ⟨g, 0, none⟩) 2 2) abL := by
  subst hW hg
  refine ⟨_, 2, rfl, ⟨Nat.le_refl _, fun h => by cases h⟩, .inr ⟨_, 0, rfl, by simp, fun i hi => ?_⟩⟩
  rw [World.cell?_alloc_mark, Nat.zero_add]
  match i, hi with
  | 0, _ => rfl
  | 1, _ => rfl
theorem calls_mem {P : Program} {f : FuncId} {args : Array Value} {Q : Ending → World → Prop} {W : World} (S : World → Prop) (h : S W) (k : ∀ W', S W' → Calls P f args W' Q) : Calls P f args W Q := k W h
theorem conv_ab (W : World) (g : Nat) (hg : g = W.heap.size) : (convert 28 28 (.slice (some ⟨g, 0, none⟩) 2 2)).run Try.prog (W.alloc (.cells #[.int .u8 97, .int .u8 98] 5)) = .ok (.slice (some ⟨g, 0, none⟩) 2 2) (W.alloc (.cells #[.int .u8 97, .int .u8 98] 5 (2, 3))) := by
  subst hg; exact Lib.run_convert_bytes_const W 28 5 _ 2 2 Try.underlying28 Try.underlying5

namespace Qm
/-- The two bytes, in a block behind the first ones. -/
def Two2 (base : Nat) : Pred := fun v w => BSl w v abL ∧ ∃ b o c, v = .slice (some ⟨b, o, none⟩) 2 c ∧ base ≤ b
theorem stays_two2 (base : Nat) : Stays (Two2 base) := fun v w w' h ⟨h1, h2⟩ => ⟨stays_bsl abL v w w' h h1, h2⟩
theorem run_build2 {P : Program} {ρ : Operand → Value} {o : Oper} {t e : TypeId} (E : Elt P t e 1 1) (x y : Value) (ho : o.op = .buildSlice t 2 #[(0, .const (.int .u8 97)), (1, .const (.int .u8 98))]) (hρ : ∀ v, ρ (.const v) = v) (W : World) :
    (execOp ρ o).run P W = .ok (.value (.slice (some ⟨W.heap.size, 0, none⟩) 2 2)) (W.alloc (.cells #[.int .u8 97, .int .u8 98] e)) := by
  obtain ⟨i, z, ht, hi, hz, hs, hby, hzs, hpos⟩ := E
  have hu := run_underlying ht W
  have h1 : (sizeOf e).run P W = .ok 1 W := by simp [sizeOf, typeInfo, hi, hs]
  have h2 : (zeroValue e).run P W = .ok z W := by simp [zeroValue, typeInfo, hi, hz]
  have hlt : ¬ 2 * 1 > 2 ^ 24 := by decide
  have h0 : ¬ 2 * 1 = 0 := by decide
  have hf : Instr.fill (fun i => some (i * 1, 1)) ((Array.range (2 * 1)).map (fun i => z.cells[i % z.cells.size]!)) [(0, .int .u8 97), (1, .int .u8 98)] = some #[.int .u8 97, .int .u8 98] := by
    generalize z.cells = cs
    have : (Array.range (2 * 1)).map (fun i => cs[i % cs.size]!) = #[cs[0 % cs.size]!, cs[1 % cs.size]!] := by
      apply Array.ext'
      simp [Array.toList_map, Array.toList_range, List.range_succ]
    rw [this]
    rfl
  simp only [execOp, ho, Instr.buildSlice, Sem.run_bind, hu, Result.andThen, h1, h2, hlt, h0, if_false, Sem.run_pure]
  simp only [List.map_toArray, List.map_cons, List.map_nil, hρ, hf]
  rfl

theorem stp_freeze (w : World) (p : Addr) (n : Nat) : Stp w (w.freeze p n) := by
  unfold World.freeze
  split
  · exact Stp.refl _
  · refine ⟨by simp, fun ad had => ?_⟩
    simp only [World.cell?, Array.getElem?_modify]
    by_cases hb : p.block = ad.block
    · rw [if_pos hb]
      cases w.heap[ad.block]? with
      | none => rfl
      | some o => cases o <;> rfl
    · rw [if_neg hb]
theorem ext_freeze {w0 w : World} (h : Ext w0 w) (p : Addr) (hp : w0.heap.size ≤ p.block) (n : Nat) : Ext w0 (w.freeze p n) := by
  obtain ⟨x, rfl⟩ := h
  exact Ext.of_below (Lib.below_freeze (bplus (Below.refl _ _) x.g x.d) hp n)

section
variable {P : Program} {ops : Array Oper} {w0 : World} {Q : Slots → Prop} {a : Act} {R : List (Tmp × Pred)} {o : Oper} {rest : List Oper}
theorem B_ab {d : Tmp} {t e : TypeId} (E : Elt P t e 1 1) (he : e = 5) (hd : o.dst = some d) (ho : o.op = .buildSlice t 2 #[(0, .const (.int .u8 97)), (1, .const (.int .u8 98))]) (hB : (sideB true ops R a o && noSel o) = true)
    (hr : wpS P ops w0 Q rest (mix a ((d, Two2 w0.heap.size) :: R))) : wpS P ops w0 Q (o :: rest) (mix a R) := by
  subst he
  exact B_make _ (stays_two2 _) hd hB (fun x => ⟨_, _, run_build2 E undef undef ho (fun _ => rfl) _, Ext.of_below (balloc (Below.refl _ _) _), ab_new _, _, 0, 2, rfl, by simp⟩) hr
theorem B_conv {d s : Tmp} (hd : o.dst = some d) (ho : o.op = .convert 28 28 (.tmp s)) (hs : relAt R s = some (Two2 w0.heap.size)) (hB : (sideC ops R a o && noSel o && (o.looksAt ops).all (fun t => t == s || (relAt R t).isNone) && (o.looksAt ops).contains s && decide (s < a.tmps.size)) = true)
    (hr : wpS Try.prog ops w0 Q rest (mix a ((d, Two2 w0.heap.size) :: R))) : wpS Try.prog ops w0 Q (o :: rest) (mix a R) := by
  have hz : s < a.tmps.size := by
    have hB' := hB
    simp only [Bool.and_eq_true] at hB'
    exact of_decide_eq_true hB'.2
  refine B_stepR _ (stays_two2 _) hd hs hB (fun w u hw hu => ?_) hr
  obtain ⟨h1, b, off, c, rfl, hb⟩ := hu
  have hx : (a.put (some s) (.slice (some ⟨b, off, none⟩) 2 c)).eval (.tmp s) = .slice (some ⟨b, off, none⟩) 2 c := by
    simp [Act.eval, Act.put, hz]
  have hrun : ∃ w', (convert 28 28 (.slice (some ⟨b, off, none⟩) 2 c)).run Try.prog w = .ok (.slice (some ⟨b, off, none⟩) 2 c) w' ∧ Ext w0 w' ∧ Stp w w' := by
    cases hsh : w.shape? b with
    | none =>
      refine ⟨w, ?_, hw, Stp.refl _⟩
      simp [convert, run_underlying Try.underlying28, run_underlying Try.underlying5, markStringish, hsh]
    | some en =>
      refine ⟨w.freeze ⟨b, en.2, none⟩ 1, ?_, ext_freeze hw _ hb _, stp_freeze _ _ _⟩
      simp [convert, run_underlying Try.underlying28, run_underlying Try.underlying5, markStringish, hsh]
  obtain ⟨w', h3, h4, h5⟩ := hrun
  refine ⟨_, w', ?_, h4, h5, stays_two2 _ _ _ _ h5 ⟨h1, b, off, c, rfl, hb⟩⟩
  simp only [execOp, ho, hx, Sem.run_bind, h3, Result.andThen, Sem.run_pure]
end

set_option maxRecDepth 100000 in
set_option maxHeartbeats 4000000 in
theorem told_any (w : World) : Calls Try.prog 36 #[] w fun e w' => e = .returned (.bool true) ∧ Below w.heap.size w w' := by
  obtain ⟨k, HK⟩ : ∃ k, Hid (key0 = k) := ⟨_, rfl⟩
  obtain ⟨y, HY⟩ : ∃ y, Hid (sealF k abL = y) := ⟨_, rfl⟩
  obtain ⟨c, HC⟩ : ∃ c, Hid (commitF k abL = c) := ⟨_, rfl⟩
  have hc0 : c ≠ 0#64 := by rw [← HC.out, ← HK.out]; exact commit0
  have hyl : y.length = 10 := by rw [← HY.out, sealF_len]; rfl
  have HO : Hid (openF k y = (abL, 0)) := by show _ = _; rw [← HY.out]; exact open_sealF k abL (by decide)
  have HKC : Hid ((#[.int .u8 (by8 k 0), .int .u8 (by8 k 1), .int .u8 (by8 k 2), .int .u8 (by8 k 3), .int .u8 (by8 k 4), .int .u8 (by8 k 5), .int .u8 (by8 k 6), .int .u8 (by8 k 7)] : Array Value) = #[.int .u8 1, .int .u8 2, .int .u8 3, .int .u8 0, .int .u8 0, .int .u8 0, .int .u8 0, .int .u8 0]) := by show _ = _; rw [← HK.out]; exact key0_cells
  have hcv := conv_ab
  go_enter Try.func36, Try.ntmps36
  go_wp2_with fail
  rw [← HKC.out]
  refine calls_mem (fun W => Mem W w [(⟨w.heap.size, 24, #[.int .u8 (by8 k 0), .int .u8 (by8 k 1), .int .u8 (by8 k 2), .int .u8 (by8 k 3), .int .u8 (by8 k 4), .int .u8 (by8 k 5), .int .u8 (by8 k 6), .int .u8 (by8 k 7)]⟩ : Blk)] ∧ BSl W (.slice (some ⟨w.heap.size + 1, 0, none⟩) 2 2) abL) ⟨((Mem.start w).key #[.int .u8 (by8 k 0), .int .u8 (by8 k 1), .int .u8 (by8 k 2), .int .u8 (by8 k 3), .int .u8 (by8 k 4), .int .u8 (by8 k 5), .int .u8 (by8 k 6), .int .u8 (by8 k 7)] 24 w.heap.size rfl).alloc _, ab_mark _ _ _ (by simp) rfl⟩ ?_
  rintro W1 ⟨M1, hV1⟩
  refine (seal_to k _ abL (by decide) y HY.out W1 hV1).mono ?_
  rintro e W2 ⟨u, rfl, hB2, A2⟩
  have hU2 := A2.bsl
  obtain ⟨uo, ucap, rfl, -⟩ := hU2.open_
  have M2 : Mem W2 w [(⟨w.heap.size, 24, #[.int .u8 (by8 k 0), .int .u8 (by8 k 1), .int .u8 (by8 k 2), .int .u8 (by8 k 3), .int .u8 (by8 k 4), .int .u8 (by8 k 5), .int .u8 (by8 k 6), .int .u8 (by8 k 7)]⟩ : Blk)] := M1.of_below hB2
  have cK := M2.cell (b := w.heap.size) (t := 24) (cs := #[.int .u8 (by8 k 0), .int .u8 (by8 k 1), .int .u8 (by8 k 2), .int .u8 (by8 k 3), .int .u8 (by8 k 4), .int .u8 (by8 k 5), .int .u8 (by8 k 6), .int .u8 (by8 k 7)]) (by simp)
  have lK : w.heap.size < W2.heap.size := M2.lt (x := (⟨w.heap.size, 24, #[.int .u8 (by8 k 0), .int .u8 (by8 k 1), .int .u8 (by8 k 2), .int .u8 (by8 k 3), .int .u8 (by8 k 4), .int .u8 (by8 k 5), .int .u8 (by8 k 6), .int .u8 (by8 k 7)]⟩ : Blk)) (by simp)
  have HM2 := Lib.hid M2
  have HU2 := Lib.hid hU2
  clear M1 M2 hV1 hB2 A2 hU2
  rw [hyl]
  go_wp2_with fail
  have HU2' := Lib.hid (show BSl W2 (.slice uo 10 ucap) y from by have := HU2.out; rwa [hyl] at this)
  refine (open_any k _ y (by omega) abL 0 HO.out W2 HU2'.out).mono ?_
  rintro e W3 ⟨u2, rfl, hB3, A3⟩
  have M3 : Mem W3 w [(⟨w.heap.size, 24, #[.int .u8 (by8 k 0), .int .u8 (by8 k 1), .int .u8 (by8 k 2), .int .u8 (by8 k 3), .int .u8 (by8 k 4), .int .u8 (by8 k 5), .int .u8 (by8 k 6), .int .u8 (by8 k 7)]⟩ : Blk)] := HM2.out.of_below hB3
  have cK3 := M3.cell (b := w.heap.size) (t := 24) (cs := #[.int .u8 (by8 k 0), .int .u8 (by8 k 1), .int .u8 (by8 k 2), .int .u8 (by8 k 3), .int .u8 (by8 k 4), .int .u8 (by8 k 5), .int .u8 (by8 k 6), .int .u8 (by8 k 7)]) (by simp)
  have lK3 : w.heap.size < W3.heap.size := M3.lt (x := (⟨w.heap.size, 24, #[.int .u8 (by8 k 0), .int .u8 (by8 k 1), .int .u8 (by8 k 2), .int .u8 (by8 k 3), .int .u8 (by8 k 4), .int .u8 (by8 k 5), .int .u8 (by8 k 6), .int .u8 (by8 k 7)]⟩ : Blk)) (by simp)
  have HU3 := Lib.hid (HU2'.out.below hB3)
  have HA3 := Lib.hid A3.bsl
  have HM3 := Lib.hid M3
  clear cK lK HM2 HU2 HU2' hB3 A3 M3
  go_wp2_with fail
  refine calls_mem (fun W => Mem W w [(⟨w.heap.size, 24, #[.int .u8 (by8 k 0), .int .u8 (by8 k 1), .int .u8 (by8 k 2), .int .u8 (by8 k 3), .int .u8 (by8 k 4), .int .u8 (by8 k 5), .int .u8 (by8 k 6), .int .u8 (by8 k 7)]⟩ : Blk)] ∧ BSl W (.slice (some ⟨W3.heap.size, 0, none⟩) 2 2) abL ∧ BSl W (.slice uo 10 ucap) y ∧ BSl W u2 abL) ⟨HM3.out.alloc _, ab_mark _ _ _ rfl rfl, HU3.out.alloc _, HA3.out.alloc _⟩ ?_
  rintro W4 ⟨M4, hV4, hU4, hA4⟩
  have HM4 := Lib.hid M4
  have HU4 := Lib.hid hU4
  have HA4 := Lib.hid hA4
  clear M4 hU4 hA4 cK3 lK3 HU3 HA3 HM3
  refine (commit_to k _ abL (by decide) c HC.out W4 hV4).mono ?_
  rintro e w5 ⟨rfl, hb5⟩; obtain ⟨g5, d5, rfl⟩ := plus_of_below hb5; clear hb5
  clear hV4
  go_wp2_with fail
  refine wp_mem (fun W => Mem W w [(⟨W4.heap.size + g5.size, 24, #[.int .u8 (by8 c 0), .int .u8 (by8 c 1), .int .u8 (by8 c 2), .int .u8 (by8 c 3), .int .u8 (by8 c 4), .int .u8 (by8 c 5), .int .u8 (by8 c 6), .int .u8 (by8 c 7)]⟩ : Blk), (⟨w.heap.size, 24, #[.int .u8 (by8 k 0), .int .u8 (by8 k 1), .int .u8 (by8 k 2), .int .u8 (by8 k 3), .int .u8 (by8 k 4), .int .u8 (by8 k 5), .int .u8 (by8 k 6), .int .u8 (by8 k 7)]⟩ : Blk)] ∧ BSl W (.slice uo 10 ucap) y ∧ BSl W u2 abL) ⟨(HM4.out.plus _ _).key _ _ (W4.heap.size + g5.size) (by simp), (HU4.out.plus _ _).alloc _, (HA4.out.plus _ _).alloc _⟩ ?_
  rintro W6 ⟨M6, hU6, hA6⟩
  have HN6 : Hid (New w [(⟨W4.heap.size + g5.size, 24, #[.int .u8 (by8 c 0), .int .u8 (by8 c 1), .int .u8 (by8 c 2), .int .u8 (by8 c 3), .int .u8 (by8 c 4), .int .u8 (by8 c 5), .int .u8 (by8 c 6), .int .u8 (by8 c 7)]⟩ : Blk), (⟨w.heap.size, 24, #[.int .u8 (by8 k 0), .int .u8 (by8 k 1), .int .u8 (by8 k 2), .int .u8 (by8 k 3), .int .u8 (by8 k 4), .int .u8 (by8 k 5), .int .u8 (by8 k 6), .int .u8 (by8 k 7)]⟩ : Blk)]) := New.cons (by have := HM4.out.size; show w.heap.size ≤ W4.heap.size + g5.size; omega) (New.cons (Nat.le_refl _) (New.nil _))
  have cK6 := M6.cell (b := w.heap.size) (t := 24) (cs := #[.int .u8 (by8 k 0), .int .u8 (by8 k 1), .int .u8 (by8 k 2), .int .u8 (by8 k 3), .int .u8 (by8 k 4), .int .u8 (by8 k 5), .int .u8 (by8 k 6), .int .u8 (by8 k 7)]) (by simp)
  have lK6 : w.heap.size < W6.heap.size := M6.lt (x := (⟨w.heap.size, 24, #[.int .u8 (by8 k 0), .int .u8 (by8 k 1), .int .u8 (by8 k 2), .int .u8 (by8 k 3), .int .u8 (by8 k 4), .int .u8 (by8 k 5), .int .u8 (by8 k 6), .int .u8 (by8 k 7)]⟩ : Blk)) (by simp)
  have cC6 := M6.cell (b := W4.heap.size + g5.size) (t := 24) (cs := #[.int .u8 (by8 c 0), .int .u8 (by8 c 1), .int .u8 (by8 c 2), .int .u8 (by8 c 3), .int .u8 (by8 c 4), .int .u8 (by8 c 5), .int .u8 (by8 c 6), .int .u8 (by8 c 7)]) (by simp)
  have lC6 : W4.heap.size + g5.size < W6.heap.size := M6.lt (x := (⟨W4.heap.size + g5.size, 24, #[.int .u8 (by8 c 0), .int .u8 (by8 c 1), .int .u8 (by8 c 2), .int .u8 (by8 c 3), .int .u8 (by8 c 4), .int .u8 (by8 c 5), .int .u8 (by8 c 6), .int .u8 (by8 c 7)]⟩ : Blk)) (by simp)
  have hst : ∀ g d, (convert 28 9 u2).run Try.prog (plus W6 g d) = .ok (.string { data := #[97, 98] }) (plus W6 g d) := fun g d => run_str (P := Try.prog) (plus W6 g d) _ _ _ u2 abL Try.underlying28 Try.underlying5 Try.underlying9 (hA6.plus g d)
  have hne : ∀ W, (Op.equalIn 10000 24 (.agg #[.int .u8 (by8 c 0), .int .u8 (by8 c 1), .int .u8 (by8 c 2), .int .u8 (by8 c 3), .int .u8 (by8 c 4), .int .u8 (by8 c 5), .int .u8 (by8 c 6), .int .u8 (by8 c 7)]) (.agg #[.int .u8 0, .int .u8 0, .int .u8 0, .int .u8 0, .int .u8 0, .int .u8 0, .int .u8 0, .int .u8 0])).run Try.prog W = .ok false W := fun W => by
    have h := eqd_dig c 0#64 W
    have hz : (c == 0#64) = false := by simpa using hc0
    have hz0 : (#[.int .u8 (by8 (0#64) 0), .int .u8 (by8 (0#64) 1), .int .u8 (by8 (0#64) 2), .int .u8 (by8 (0#64) 3), .int .u8 (by8 (0#64) 4), .int .u8 (by8 (0#64) 5), .int .u8 (by8 (0#64) 6), .int .u8 (by8 (0#64) 7)] : Array Value) = #[.int .u8 0, .int .u8 0, .int .u8 0, .int .u8 0, .int .u8 0, .int .u8 0, .int .u8 0, .int .u8 0] := by
      simp only [by8_eq]; rfl
    rwa [hz, hz0] at h
  obtain ⟨x, HX⟩ : ∃ x, Hid (wordF k (strL { data := #[115, 97, 108, 116] }) = x) := ⟨_, rfl⟩
  obtain ⟨z, HZ⟩ : ∃ z, Hid (ofF abL = z) := ⟨_, rfl⟩
  have HT2 : Hid (twoF x z = c) := by show _ = _; rw [← HC.out, ← HX.out, ← HZ.out]; rfl
  have T1 := Lib.hid (fun W => word_bytes k { data := #[115, 97, 108, 116] } W (by decide) x HX.out)
  have T2 := Lib.hid (fun W => two_to x z c HT2.out W)
  have T3 := Lib.hid (fun v W h => of_bytes v abL W h (by decide) z HZ.out)
  have T4 := Lib.hid (fun v W h => opens_to c k v abL (by decide) c HC.out true (by simp) W h)
  have HM6 := Lib.hid M6
  clear M6 hU6 hA6
  refine wp_region_rq (by kernel_rfl) (by kernel_rfl) (by kernel_rfl) ?_
  repeat (first
    | (refine B_skip ?_ ?_; (· rfl); (try simp only [Act.put, List.setIfInBounds_toArray, List.set_cons_zero, List.set_cons_succ]))
    | (refine B_move rfl ?_ ?_; (· rfl); (try simp only [Act.eval, Act.put, Array.getD_eq_getD_getElem?, List.getElem?_toArray, List.getElem?_cons_succ, List.getElem?_cons_zero, Option.getD_some, List.setIfInBounds_toArray, List.set_cons_zero, List.set_cons_succ]))
    | (refine B_plain ?_ ?_; (· rfl); intro K hK; go_big_quiet_op; with_reducible refine hK _ ?_; clear hK K)
    | (refine B_callX (v := ?_) (f := 58) rfl (by kernel_rfl) ?_ (fun xq => ?_) ?_; rotate_left; (· rfl); (· ((simp only [List.map_toArray, List.map_cons, List.map_nil, Act.eval, Array.getD_eq_getD_getElem?, List.getElem?_toArray, List.getElem?_cons_succ, List.getElem?_cons_zero, Option.getD_some]); with_reducible apply retB; with_reducible exact (T1.out _))); (try simp only [Act.put, List.setIfInBounds_toArray, List.set_cons_zero, List.set_cons_succ]))
    | (refine B_callX (v := ?_) (f := 57) rfl (by kernel_rfl) ?_ (fun xq => ?_) ?_; rotate_left; (· rfl); (· ((simp only [List.map_toArray, List.map_cons, List.map_nil, Act.eval, Array.getD_eq_getD_getElem?, List.getElem?_toArray, List.getElem?_cons_succ, List.getElem?_cons_zero, Option.getD_some]); with_reducible apply retB; with_reducible exact (T2.out _))); (try simp only [Act.put, List.setIfInBounds_toArray, List.set_cons_zero, List.set_cons_succ]))
    | (refine B_ab elt_u8 rfl rfl rfl ?_ ?_; (· rfl))
    | (refine B_conv (s := 41) rfl rfl rfl ?_ ?_; (· rfl))
    | (refine B_conv (s := 49) rfl rfl rfl ?_ ?_; (· rfl))
    | (refine B_callRX (v := .bool true) (f := 38) rfl (by kernel_rfl) ?_ (fun xq vs hvs => ?_) ?_; (· rfl); (· (obtain ⟨a1, _, rfl, e1, a2, _, rfl, e2, a3, _, rfl, e3, e4⟩ := hvs; cases e4; obtain rfl : a1 = .agg #[.int .u8 (by8 c 0), .int .u8 (by8 c 1), .int .u8 (by8 c 2), .int .u8 (by8 c 3), .int .u8 (by8 c 4), .int .u8 (by8 c 5), .int .u8 (by8 c 6), .int .u8 (by8 c 7)] := e1; obtain rfl : a2 = .agg #[.int .u8 (by8 k 0), .int .u8 (by8 k 1), .int .u8 (by8 k 2), .int .u8 (by8 k 3), .int .u8 (by8 k 4), .int .u8 (by8 k 5), .int .u8 (by8 k 6), .int .u8 (by8 k 7)] := e2; (with_reducible apply retB); exact T4.out a3 _ e3.1)); (try simp only [Act.put, List.setIfInBounds_toArray, List.set_cons_zero, List.set_cons_succ]))
    | (refine B_callRX (v := .agg #[.int .u8 (by8 z 0), .int .u8 (by8 z 1), .int .u8 (by8 z 2), .int .u8 (by8 z 3), .int .u8 (by8 z 4), .int .u8 (by8 z 5), .int .u8 (by8 z 6), .int .u8 (by8 z 7)]) (f := 59) rfl (by kernel_rfl) ?_ (fun xq vs hvs => ?_) ?_; (· rfl); (· (obtain ⟨a1, _, rfl, e1, e4⟩ := hvs; cases e4; (with_reducible apply retB); exact T3.out a1 _ e1.1)); (try simp only [Act.put, List.setIfInBounds_toArray, List.set_cons_zero, List.set_cons_succ])))
  refine B_nil ?_ rfl ?_ ?_
  · kernel_rfl
  · rfl
  rintro _ ⟨⟨g6, d6⟩, rfl⟩
  simp only [fin, Act.put, List.setIfInBounds_toArray, List.set_cons_zero, List.set_cons_succ]
  have HBW := Lib.hid (HM6.out.below HN6.out)
  intros
  go_wp2
  go_ret
  exact ⟨rfl, bplus HBW.out _ _⟩
end Qm
theorem told_any (w : World) : Calls Try.prog 36 #[] w fun e w' => e = .returned (.bool true) ∧ Below w.heap.size w w' := Qm.told_any w

end Go.Proofs.Ythdcfdfpfagamaa
