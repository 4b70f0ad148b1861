/- Contract of the reference's Word. -/
import Derived.Test.YtghaiplhakeahaaRo
import Derived.Test.YtghaiplhakeahaaRq
import Derived.Test.YtghaiplhakeahaaMem
namespace Go.Proofs.Ytghaiplhakeahaa
set_option linter.unusedSimpArgs false
set_option linter.unusedVariables false
open Go.RowKit

theorem refBegin_int (n : Nat) (k : Int) (hk : k = n) (z : St) (hn : n < 18446744073709551616) (hz : beginF (BitVec.ofNat 64 n) = z) (w : World) :
    Calls Try.prog 96 #[.int .u64 k] w fun e w' => e = .returned (.agg #[.int .u64 (nv z.a), .int .u64 (nv z.b), .int .u64 (nv z.c), .int .u64 (nv z.d)]) ∧ Below w.heap.size w w' := by
  subst hk; exact refBegin_to n z hn hz w
/-- A conversion, as an operation. -/
theorem run_conv {P : Program} {o : Oper} {a : Act} {w w' : World} {src dst : TypeId} {x : Operand} {v u : Value} (ho : o.op = .convert src dst x) (h : (convert src dst v).run P w = .ok u w') (hv : a.eval x = v) : (execOp a.eval o).run P w = .ok (.value u) w' := by
  simp [execOp, ho, hv, h, Result.andThen]

set_option maxRecDepth 100000 in
set_option maxHeartbeats 1000000 in
theorem refWord_bytes (x : BitVec 64) (tx : ByteArray) (w : World) (hl : tx.size ≤ 1000000) (z : BitVec 64) (hz : wordF x (strL tx) = z) :
    Calls Try.prog 62 #[.agg #[.int .u8 (by8 x 0), .int .u8 (by8 x 1), .int .u8 (by8 x 2), .int .u8 (by8 x 3), .int .u8 (by8 x 4), .int .u8 (by8 x 5), .int .u8 (by8 x 6), .int .u8 (by8 x 7)], .string tx] w fun e w' => e = .returned (.agg #[.int .u8 (by8 z 0), .int .u8 (by8 z 1), .int .u8 (by8 z 2), .int .u8 (by8 z 3), .int .u8 (by8 z 4), .int .u8 (by8 z 5), .int .u8 (by8 z 6), .int .u8 (by8 z 7)]) ∧ Below w.heap.size w w' := by
  obtain ⟨s0, HS0⟩ : ∃ s0, Hid (beginF (BitVec.ofNat 64 4) = s0) := ⟨_, rfl⟩
  obtain ⟨u, HU⟩ : ∃ u, Hid (takeF s0 x = u) := ⟨_, rfl⟩
  obtain ⟨t, HT⟩ : ∃ t, Hid (bytesF u (strL tx) = t) := ⟨_, rfl⟩
  have HZ : Hid (givesF t = z) := by show _ = _; rw [← HT.out, ← HU.out, ← HS0.out]; exact hz
  have HL : Hid ((strL tx).length ≤ 1000000) := by show _ ≤ _; rw [strL_len]; exact hl
  clear hz
  have hex := fun W : World => run_bytes (P := Try.prog) W 9 26 5 tx Try.underlying9 Try.underlying26 Try.underlying5
  have HEX := Lib.hid hex
  clear hex
  have H44 : Hid ((4 : Int) = ((4 : Nat) : Int)) := rfl
  have l4 : 4 < 18446744073709551616 := by omega
  go_enter Try.func62, Try.ntmps62
  go_wp2
  refine wp_region_rt 8 1 (by kernel_rfl) (by kernel_rfl) (by kernel_rfl) (by kernel_rfl) ?_
  simp only [List.take_succ_cons, List.take_zero]
  repeat (first
    | (refine B_skip ?_ ?_; (· rfl); (try simp only [Act.put, List.setIfInBounds_toArray, List.set_cons_zero, List.set_cons_succ]))
    | (refine B_move rfl ?_ ?_; (· rfl); (try simp only [Act.eval, Act.put, Array.getD_eq_getD_getElem?, List.getElem?_toArray, List.getElem?_cons_succ, List.getElem?_cons_zero, Option.getD_some, List.setIfInBounds_toArray, List.set_cons_zero, List.set_cons_succ]))
    | (refine B_plain ?_ ?_; (· rfl); intro K hK; go_big_quiet_op; with_reducible refine hK _ ?_; clear hK K)
    | (refine B_callX (v := ?_) (f := 96) rfl (by kernel_rfl) ?_ (fun xq => ?_) ?_; rotate_left; (· rfl); (· ((simp only [List.map_toArray, List.map_cons, List.map_nil, Act.eval, Array.getD_eq_getD_getElem?, List.getElem?_toArray, List.getElem?_cons_succ, List.getElem?_cons_zero, Option.getD_some]); with_reducible apply retB; with_reducible exact (refBegin_int 4 4 H44.out s0 l4 HS0.out _))); (try simp only [Act.put, List.setIfInBounds_toArray, List.set_cons_zero, List.set_cons_succ]))
    | (refine B_callX (v := ?_) (f := 97) rfl (by kernel_rfl) ?_ (fun xq => ?_) ?_; rotate_left; (· rfl); (· ((simp only [List.map_toArray, List.map_cons, List.map_nil, Act.eval, Array.getD_eq_getD_getElem?, List.getElem?_toArray, List.getElem?_cons_succ, List.getElem?_cons_zero, Option.getD_some]); with_reducible apply retB; with_reducible exact (refNum_any x _))); (try simp only [Act.put, List.setIfInBounds_toArray, List.set_cons_zero, List.set_cons_succ]))
    | (refine B_callX (v := ?_) (f := 95) rfl (by kernel_rfl) ?_ (fun xq => ?_) ?_; rotate_left; (· rfl); (· ((simp only [List.map_toArray, List.map_cons, List.map_nil, Act.eval, Array.getD_eq_getD_getElem?, List.getElem?_toArray, List.getElem?_cons_succ, List.getElem?_cons_zero, Option.getD_some]); with_reducible apply retB; with_reducible exact (refIn_st s0 u x HU.out _))); (try simp only [Act.put, List.setIfInBounds_toArray, List.set_cons_zero, List.set_cons_succ]))
    | (refine B_make (fun v w => BSl w v (strL tx)) (stays_bsl _) rfl ?_ (fun xq => ?_) ?_; (· rfl); (· (obtain ⟨u1, g1, d1, e1, b1, -⟩ := HEX.out (plus _ xq.g xq.d); exact ⟨u1, _, run_conv rfl e1 rfl, ⟨⟨g1, d1⟩, rfl⟩, b1⟩)))
    | (refine B_callRX (v := ?_) (f := 94) rfl (by kernel_rfl) ?_ (fun xq vs hvs => ?_) ?_; rotate_left; (· rfl); (· (obtain ⟨a1, _, rfl, e1, a2, _, rfl, e2, e3⟩ := hvs; obtain rfl : a1 = .agg #[.int .u64 (nv u.a), .int .u64 (nv u.b), .int .u64 (nv u.c), .int .u64 (nv u.d)] := e1; cases e3; (with_reducible apply retB); exact refBytes_any u a2 (strL tx) _ e2 HL.out t HT.out)); (try simp only [Act.put, List.setIfInBounds_toArray, List.set_cons_zero, List.set_cons_succ]))
    | (refine B_callX (v := ?_) (f := 93) rfl (by kernel_rfl) ?_ (fun xq => ?_) ?_; rotate_left; (· rfl); (· ((simp only [List.map_toArray, List.map_cons, List.map_nil, Act.eval, Array.getD_eq_getD_getElem?, List.getElem?_toArray, List.getElem?_cons_succ, List.getElem?_cons_zero, Option.getD_some]); with_reducible apply retB; with_reducible exact (refOut_to t z HZ.out _))); (try simp only [Act.put, List.setIfInBounds_toArray, List.set_cons_zero, List.set_cons_succ])))
  refine B_nil ?_ rfl ?_ ?_
  · kernel_rfl
  · rfl
  rintro _ ⟨⟨g1, d1⟩, rfl⟩
  simp only [fin, Act.put, List.setIfInBounds_toArray, List.set_cons_zero, List.set_cons_succ]
  intros
  refine last_one (k := 8) (by kernel_rfl) (by kernel_rfl) (by rfl) ?_ ?_
  · rfl
  intro K hK
  go_simp
  refine hK _ _ ?_
  clear hK K
  all_goals
    go_wp2
    refine bodyPost_ret (v := .agg #[.int .u8 (by8 z 0), .int .u8 (by8 z 1), .int .u8 (by8 z 2), .int .u8 (by8 z 3), .int .u8 (by8 z 4), .int .u8 (by8 z 5), .int .u8 (by8 z 6), .int .u8 (by8 z 7)]) (by simp [results, Try.results62, go_sem]) rfl ⟨rfl, by (repeat' (first | (with_reducible exact Below.refl _ _) | (with_reducible refine bplus ?_ _ _) | (with_reducible refine balloc ?_ _) | (with_reducible refine Below.drew ?_) | (with_reducible refine bdrewN ?_ _) | (with_reducible refine Below.setCell ?_ (by go_size) _)))⟩

end Go.Proofs.Ytghaiplhakeahaa
