/- hash.Writer: New and Write. -/
import Derived.Test.YtmfogedagepcgaaWr
namespace Go.Proofs.Ytmfogedagepcgaa
set_option linter.unusedSimpArgs false
set_option linter.unusedVariables false
open Go.RowKit

set_option maxRecDepth 100000 in
set_option maxHeartbeats 1000000 in
theorem writer_mem (w w0 : World) (L : List Blk) (M : Mem w w0 L) (s : St) (hs : stF [] = s) :
    Calls Try.prog 48 #[] w fun e w' => ∃ p, e = .returned (.pointer (some ⟨p, 0, none⟩)) ∧ w.heap.size ≤ p ∧ Mem w' w0 (⟨p, 119, wcs (.slice none 0 0) s⟩ :: L) := by
  have HM := Lib.hid M
  have HS : Hid (beginF 1#64 = s) := hs
  clear M hs
  go_enter Try.func48, Try.ntmps48
  go_wp2_with (go_at_call 68; refine (begin_any 1#64 _ (nv_lit 1 (by decide)) _).mono ?_; rintro e w1 ⟨rfl, hb1⟩; obtain ⟨g1, d1, rfl⟩ := plus_of_below hb1; clear hb1; rw [HS.out])
  go_ret
  exact ⟨_, rfl, by simp, (HM.out.plus _ _).key _ _ _ (by simp)⟩

theorem write_nil (bv : Value) (w : World) :
    Calls Try.prog 49 #[.pointer none, bv] w fun e w' => e = .returned (.tuple #[]) ∧ w' = w := by
  go_enter Try.func49, Try.ntmps49
  go_wp2
  refine bodyPost_ret (v := .tuple #[]) (by simp [results, Try.results49, go_sem]) rfl ⟨rfl, rfl⟩

theorem wp_callop {P : Program} {w : World} {o : Oper} {a : Act} {Q : Exit → Act → World → Prop} {K : Act → World → Prop} {f : FuncId} {xs : Array Operand} {ts : Array TypeId} (ho : o.op = .call { callee := .value (.func f), args := xs, argTypes := ts }) (he : entersB P f = true)
    (args : Array Value) (ha : xs.map a.eval = args) (R : Ending → World → Prop) (h : Calls P f args w R) (hk : ∀ e w', R e w' → ∃ v, e = .returned v ∧ K (a.put o.dst v) w') : o.wp P a w K Q := by
  subst ha
  unfold Oper.wp
  rw [run_enter ho he]
  refine h.mono fun e w' hr => ?_
  obtain ⟨v, rfl, hv⟩ := hk e w' hr
  exact hv

theorem Row.at_ {e : TypeId} {sz n cap : Nat} {ao : Option Addr} {xs : List Value} {B : List Blk} (h : Row e sz (.slice ao n cap) n xs B) : ao = none ∨ ∃ r cur, ao = some ⟨r, 0, none⟩ ∧ B = [⟨r, e, cur⟩] := by
  cases h with
  | void => exact .inl rfl
  | one r n cap cur h1 h2 h3 => exact .inr ⟨r, cur, rfl, rfl⟩
theorem Row.ne_drop {e : TypeId} {sz n cap : Nat} {ao : Option Addr} {xs : List Value} {B L : List Blk} (h : Row e sz (.slice ao n cap) n xs B) {p : Nat} {t : TypeId} {cs : Array Value} {w w0 : World} (M : Mem w w0 (B ++ ⟨p, t, cs⟩ :: L)) (k : Nat) (bs os m c : Nat) (he : Value.slice (if cap = k then ao else ao.map (·.add k)) (n - k) (cap - k) = .slice (some ⟨bs, os, none⟩) m c) : bs ≠ p := by
  rcases h.at_ with rfl | ⟨r, cur, rfl, rfl⟩
  · split at he <;> cases he
  · have hrp : r ≠ p := by
      have := M.apart
      simp only [List.cons_append, List.nil_append, List.pairwise_cons] at this
      exact this.1 _ (List.mem_cons_self ..)
    split at he
    · cases he; exact hrp
    · simp only [Option.map_some, Value.slice.injEq, Option.some.injEq] at he
      have h1 := congrArg Addr.block he.1
      unfold Addr.add at h1
      split at h1 <;> (simp at h1; subst h1; exact hrp)

set_option maxRecDepth 100000 in
set_option maxHeartbeats 2000000 in
theorem write_mem (p cap : Nat) (ao : Option Addr) (l x y : List UInt8) (hy : l ++ x = y) (bv : Value) (w w0 : World) (B L : List Blk) (hlx : l.length + x.length ≤ 1000000) (s z : St) (hs : stF l = s) (hz : stF y = z)
    (R : Row 5 1 (.slice ao l.length cap) l.length (bcs l) B) (hB : New w0 B) (M : Mem w w0 (B ++ ⟨p, 119, wcs (.slice ao l.length cap) s⟩ :: L)) (hx : ∀ W, Mem W w0 L → BSl W bv x) (hp : w0.heap.size ≤ p) :
    Calls Try.prog 49 #[.pointer (some ⟨p, 0, none⟩), bv] w fun e w' => e = .returned (.tuple #[]) ∧ ∃ ao' cap' B', Row 5 1 (.slice ao' y.length cap') y.length (bcs y) B' ∧ New w0 B' ∧ Mem w' w0 (B' ++ ⟨p, 119, wcs (.slice ao' y.length cap') z⟩ :: L) := by
  have cb := M.cell0
  have lb := M.lt0
  have hxw := hx w (M.dropAll hB |>.drop hp)
  obtain ⟨bo, bcap, rfl, hbc, hb0, hbcell⟩ := hxw.open_
  have hyl : l.length + x.length = y.length := by rw [← hy]; simp
  have HYB : Hid (bcs l ++ bcs x = bcs y) := by show _ = _; rw [← hy]; exact (bcs_app l x).symm
  obtain ⟨q, HQ⟩ : ∃ q, Hid (q = l.length / 8) := ⟨_, rfl⟩
  have HW : Hid (wholeF s (y.drop (q * 8)) ((y.drop (q * 8)).length / 8) = z) := by
    show _ = _
    rw [HQ.out, ← hs, ← hz, ← hy, Nat.mul_comm]; exact stF_app l x
  have hqi : (l.length : Int) / 8 = (q : Int) := by rw [HQ.out]; omega
  have hq0 : q * 8 ≤ l.length := by rw [HQ.out]; omega
  have hq1 : q * 8 ≤ y.length := by omega
  have hw1 : IntKind.i64.wrap (q : Int) = q := IntWalk.i64_in _ (by omega)
  have hw2 : IntKind.i64.wrap ((q : Int) * 8) = (q : Int) * 8 := IntWalk.i64_in _ (by omega)
  have hw3 : ((q : Int) * 8).toNat = q * 8 := by omega
  have hw4 : (0 : Int) ≤ (q : Int) * 8 := by omega
  have hw5 : (q : Int) * 8 ≤ (y.length : Int) := by omega
  have HX := Lib.hid hx
  have HXW := Lib.hid hxw
  have HM := Lib.hid M
  have HR := Lib.hid R
  clear hx hxw M R hbcell hy hs hz
  go_enter Try.func49, Try.ntmps49
  go_wp2_with (at_builtin; refine wpList_append_row rfl (.tmp 18) (.tmp 19) 60 rfl elt_u8 HM.out hB _ _ _ (by rfl) HR.out _ _ _ (bcs x) (by rfl) (by rw [bcs_len]; simp) (by simpa using hb0) HXW.out.cells.2.2 (bcs_one x) (by unfold maxLen; omega) (by omega) y.length hyl _ HYB.out (fun ao' cap' B' w' R' M' hB' => ?_); (have HR1 := Lib.hid R'); (have HM1 := Lib.hid M'); (have HB1 := Lib.hid hB'); (have c1 := M'.cell0); (have f1 := M'.frozen0); (have l1 := M'.lt0); (clear R' M' hB'))
  refine wp_mem (fun W => Mem W w0 (B' ++ ⟨p, 119, wcs (.slice ao' y.length cap') s⟩ :: L)) (HM1.out.set0 0 _) ?_
  intro W hM
  clear c1 f1 l1 cb lb HM HR HXW HM1
  have c2 := hM.cell0
  have l2 := hM.lt0
  have hd := (HR1.out.bsl hM).drop (q * 8) hq1
  simp only [Nat.mul_one] at hd
  have HD := Lib.hid hd
  have HNE := Lib.hid (HR1.out.ne_drop hM (q * 8))
  have HM2 := Lib.hid hM
  clear hM hd
  refine wp_region_rc 9 1 (by kernel_rfl) (by kernel_rfl) (by kernel_rfl) (by kernel_rfl) ?_
  simp only [List.take_succ_cons, List.take_zero]
  repeat (first
    | (refine B_skip ?_ ?_; (· rfl); (try simp only [Act.put, List.setIfInBounds_toArray, List.set_cons_zero, List.set_cons_succ]))
    | (refine B_move rfl ?_ ?_; (· rfl); (try simp only [Act.eval, Act.put, Array.getD_eq_getD_getElem?, List.getElem?_toArray, List.getElem?_cons_succ, List.getElem?_cons_zero, Option.getD_some, List.setIfInBounds_toArray, List.set_cons_zero, List.set_cons_succ]))
    | (refine B_plain ?_ ?_; (· rfl); intro K hK; go_big_quiet_op; with_reducible refine hK _ ?_; clear hK K)
    | (refine B_nilck rfl rfl ?_ ?_; (· rfl); (try simp only [Act.put, List.setIfInBounds_toArray, List.set_cons_zero, List.set_cons_succ])))
  refine B_nil ?_ rfl ?_ ?_
  · kernel_rfl
  · rfl
  rintro _ ⟨⟨g1, d1⟩, rfl⟩
  simp only [fin, Act.put, List.setIfInBounds_toArray, List.set_cons_zero, List.set_cons_succ]
  intros
  refine last_one (k := 9) (by kernel_rfl) (by kernel_rfl) (by rfl) ?_ ?_
  · rfl
  intro K hK
  refine wp_callop rfl (by kernel_rfl) _ (by simp only [List.map_toArray, List.map_cons, List.map_nil, Act.eval, Array.getD_eq_getD_getElem?, List.getElem?_toArray, List.getElem?_cons_succ, List.getElem?_cons_zero, Option.getD_some]) _ (whole_mem s p _ _ (y.drop (q * 8)) _ w0 B' L (HM2.out.plus _ _) (HD.out.plus _ _) (by rw [List.length_drop]; omega) (fun bs os n c he _ => HNE.out bs os n c he) z HW.out) ?_
  rintro e w2 ⟨rfl, hM2⟩
  refine ⟨_, rfl, hK _ _ ?_⟩
  clear hK K
  have HM3 := Lib.hid hM2
  clear hM2 HM2 HD HNE c2 l2
  generalize (if cap' = q * 8 then ao' else Option.map (fun x => x.add (q * 8)) ao') = E
  go_end0
  exact ⟨rfl, ao', cap', B', HR1.out, HB1.out, HM3.out⟩

end Go.Proofs.Ytmfogedagepcgaa
