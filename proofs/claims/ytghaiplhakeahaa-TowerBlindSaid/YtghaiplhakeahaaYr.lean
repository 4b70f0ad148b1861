/- baizeref51: contracts of Hint, Key, Make; bytes and strings. -/
import Derived.Test.YtghaiplhakeahaaYb
import Derived.Test.YtghaiplhakeahaaRb
import Derived.Test.YtghaiplhakeahaaOb
namespace Go.Proofs.Ytghaiplhakeahaa
set_option linter.unusedSimpArgs false
set_option linter.unusedVariables false
open Go.RowKit Go.WideMaps Go.ChangeMaps Go.Maps

/-- '[]byte(s)', as functions of the world. -/
theorem conv_fn (tx : ByteArray) : ∃ (bv : World → Value) (bg : World → Array Obj) (bd : World → Nat), (∀ W, (convert 9 26 (.string tx)).run Try.prog W = .ok (bv W) (plus W (bg W) (bd W))) ∧ ∀ W, BSl (plus W (bg W) (bd W)) (bv W) (strL tx) := by
  have hex := fun W : World => run_bytes (P := Try.prog) W 9 26 5 tx Try.underlying9 Try.underlying26 Try.underlying5
  exact ⟨fun W => Classical.choose (hex W), fun W => Classical.choose (Classical.choose_spec (hex W)), fun W => Classical.choose (Classical.choose_spec (Classical.choose_spec (hex W))),
      fun W => (Classical.choose_spec (Classical.choose_spec (Classical.choose_spec (hex W)))).1, fun W => (Classical.choose_spec (Classical.choose_spec (Classical.choose_spec (hex W)))).2.1⟩
theorem conv_fn2 (tx : ByteArray) : ∃ (bv : World → Value) (bg : World → Array Obj) (bd : World → Nat), (∀ W, (convert 9 26 (.string tx)).run Try.prog W = .ok (bv W) (plus W (bg W) (bd W))) ∧ ∀ W, BSl (plus W (bg W) (bd W)) (bv W) (strL tx) ∧ ∃ cap, bv W = .slice (some ⟨W.heap.size, 0, none⟩) tx.size cap := by
  have hex := fun W : World => run_bytes (P := Try.prog) W 9 26 5 tx Try.underlying9 Try.underlying26 Try.underlying5
  exact ⟨fun W => Classical.choose (hex W), fun W => Classical.choose (Classical.choose_spec (hex W)), fun W => Classical.choose (Classical.choose_spec (Classical.choose_spec (hex W))),
      fun W => (Classical.choose_spec (Classical.choose_spec (Classical.choose_spec (hex W)))).1, fun W => (Classical.choose_spec (Classical.choose_spec (Classical.choose_spec (hex W)))).2⟩
theorem run_strT (W : World) (v : Value) (l : List UInt8) (h : BSl W v l) : (convert 26 9 v).run Try.prog W = .ok (.string { data := l.toArray }) W :=
  run_str W _ _ _ v l Try.underlying26 Try.underlying5 Try.underlying9 h
theorem strL_mk (l : List UInt8) : strL { data := l.toArray } = l := rfl
theorem mk_strL (s : ByteArray) : ({ data := (strL s).toArray } : ByteArray) = s := by cases s; simp [strL]
theorem beqS (l r : List UInt8) : (({ data := l.toArray } : ByteArray) == { data := r.toArray }) = (l == r) := str_eq' l r
section
variable {ops : Array Oper} {w0 : World} {Q : Slots → Prop} {a : Act} {R : List (Tmp × Pred)} {o : Oper} {rest : List Oper}
/-- A slice of bytes that is known by a property is made a string. -/
theorem B_strT {s : Tmp} {l : List UInt8} (ho : o.op = .convert 26 9 (.tmp s)) (hs : relAt R s = some (fun v w => BSl w v l)) (hB : (sideC ops R a o && noSel o && (o.looksAt ops).all (fun t => t == s || (relAt R t).isNone) && (o.looksAt ops).contains s && decide (s < a.tmps.size)) = true)
    (hr : wpS Try.prog ops w0 Q rest (mix (a.put o.dst (.string { data := l.toArray })) R)) : wpS Try.prog ops w0 Q (o :: rest) (mix a R) := by
  have hz : s < a.tmps.size := by
    have hB' := hB
    simp only [Bool.and_eq_true] at hB'
    exact of_decide_eq_true hB'.2
  refine B_readX hs hB (fun x u hu => ?_) hr
  have hx : (a.put (some s) u).eval (.tmp s) = u := by simp [Act.eval, Act.put, hz]
  simp only [execOp, ho, hx, Sem.run_bind, run_strT _ u l hu, Result.andThen, Sem.run_pure]
/-- A string is made bytes. -/
theorem B_bytesT {tx : ByteArray} {l : List UInt8} (hl : strL tx = l) {d : Tmp} {x : Operand} (ho : o.op = .convert 9 26 x) (hd : o.dst = some d) (hx : a.eval x = .string tx) (hB : (sideB true ops R a o && noSel o) = true)
    (hr : wpS Try.prog ops w0 Q rest (mix a ((d, fun v w => BSl w v l) :: R))) : wpS Try.prog ops w0 Q (o :: rest) (mix a R) := by
  obtain ⟨bv, bg, bd, h1, h2⟩ := conv_fn tx
  subst hl
  exact B_make _ (stays_bsl _) hd hB (fun x => ⟨_, _, run_conv ho (h1 _) hx, ⟨⟨_, _⟩, rfl⟩, h2 _⟩) hr
end

set_option maxRecDepth 100000 in
set_option maxHeartbeats 1000000 in
theorem rhint_to (x h : BitVec 64) (hh : thintF x = h) (w : World) :
    Calls Try.prog 19 #[.agg #[.int .u8 (by8 x 0), .int .u8 (by8 x 1), .int .u8 (by8 x 2), .int .u8 (by8 x 3), .int .u8 (by8 x 4), .int .u8 (by8 x 5), .int .u8 (by8 x 6), .int .u8 (by8 x 7)]] w fun e w' => e = .returned (.agg #[.int .u8 (by8 h 0), .int .u8 (by8 h 1), .int .u8 (by8 h 2), .int .u8 (by8 h 3), .int .u8 (by8 h 4), .int .u8 (by8 h 5), .int .u8 (by8 h 6), .int .u8 (by8 h 7)]) ∧ Below w.heap.size w w' := by
  have H := Lib.hid (fun W => refWord_bytes x { data := #[104, 105, 110, 116] } W (by decide) h hh)
  go_enter Try.func19, Try.ntmps19
  go_wp2_with fail
  refine (H.out _).mono ?_
  rintro e w1 ⟨rfl, hb1⟩; obtain ⟨g1, d1, rfl⟩ := plus_of_below hb1; clear hb1
  go_wp2
  refine bodyPost_ret (v := .agg #[.int .u8 (by8 h 0), .int .u8 (by8 h 1), .int .u8 (by8 h 2), .int .u8 (by8 h 3), .int .u8 (by8 h 4), .int .u8 (by8 h 5), .int .u8 (by8 h 6), .int .u8 (by8 h 7)]) (by simp [results, Try.results19, go_sem]) rfl ⟨rfl, by (repeat' (first | (with_reducible exact Below.refl _ _) | (with_reducible refine bplus ?_ _ _) | (with_reducible refine balloc ?_ _) | (with_reducible refine Below.drew ?_) | (with_reducible refine bdrewN ?_ _) | (with_reducible refine Below.setCell ?_ (by go_size) _)))⟩
set_option maxRecDepth 100000 in
set_option maxHeartbeats 1000000 in
theorem rkey_to (x h : BitVec 64) (hh : tkeyF x = h) (w : World) :
    Calls Try.prog 60 #[.agg #[.int .u8 (by8 x 0), .int .u8 (by8 x 1), .int .u8 (by8 x 2), .int .u8 (by8 x 3), .int .u8 (by8 x 4), .int .u8 (by8 x 5), .int .u8 (by8 x 6), .int .u8 (by8 x 7)]] w fun e w' => e = .returned (.agg #[.int .u8 (by8 h 0), .int .u8 (by8 h 1), .int .u8 (by8 h 2), .int .u8 (by8 h 3), .int .u8 (by8 h 4), .int .u8 (by8 h 5), .int .u8 (by8 h 6), .int .u8 (by8 h 7)]) ∧ Below w.heap.size w w' := by
  have H := Lib.hid (fun W => refWord_bytes x { data := #[98, 111, 120] } W (by decide) h hh)
  go_enter Try.func60, Try.ntmps60
  go_wp2_with fail
  refine (H.out _).mono ?_
  rintro e w1 ⟨rfl, hb1⟩; obtain ⟨g1, d1, rfl⟩ := plus_of_below hb1; clear hb1
  go_wp2
  refine bodyPost_ret (v := .agg #[.int .u8 (by8 h 0), .int .u8 (by8 h 1), .int .u8 (by8 h 2), .int .u8 (by8 h 3), .int .u8 (by8 h 4), .int .u8 (by8 h 5), .int .u8 (by8 h 6), .int .u8 (by8 h 7)]) (by simp [results, Try.results60, go_sem]) rfl ⟨rfl, by (repeat' (first | (with_reducible exact Below.refl _ _) | (with_reducible refine bplus ?_ _ _) | (with_reducible refine balloc ?_ _) | (with_reducible refine Below.drew ?_) | (with_reducible refine bdrewN ?_ _) | (with_reducible refine Below.setCell ?_ (by go_size) _)))⟩

/-- What the document's Make answers. -/
def makeE (n : Int) (k : Nat) : Nat := if isNum n = false then 2 else if 32768 < k then 5 else 0
theorem ba_empty : ({ data := #[] } : ByteArray) = ByteArray.empty := rfl
theorem isNum_cases (n : Int) (h : isNum n = false) : decide (n < 0) = true ∨ (decide (n < 0) = false ∧ decide (1099511627776 < n) = true) := by
  unfold isNum at h
  by_cases h1 : n < 0
  · exact .inl (decide_eq_true h1)
  · refine .inr ⟨decide_eq_false h1, decide_eq_true ?_⟩
    rw [Bool.and_eq_false_iff] at h
    simp at h
    omega
set_option maxRecDepth 100000 in
set_option maxHeartbeats 1000000 in
theorem rmake_range (x : BitVec 64) (n : Int) (s : ByteArray) (hn : isNum n = false) (w : World) :
    Calls Try.prog 17 #[.agg #[.int .u8 (by8 x 0), .int .u8 (by8 x 1), .int .u8 (by8 x 2), .int .u8 (by8 x 3), .int .u8 (by8 x 4), .int .u8 (by8 x 5), .int .u8 (by8 x 6), .int .u8 (by8 x 7)], .int .i64 n, .string s] w fun e w' => e = .returned (.tuple #[.agg #[.int .u8 0, .int .u8 0, .int .u8 0, .int .u8 0, .int .u8 0, .int .u8 0, .int .u8 0, .int .u8 0, .int .i64 0, .string ByteArray.empty], .int .i64 2]) ∧ Below w.heap.size w w' := by
  rcases isNum_cases n hn with h1 | ⟨h1, h2⟩
  ·
    go_enter Try.func17, Try.ntmps17
    go_wp2
    refine bodyPost_ret (v := .tuple #[.agg #[.int .u8 0, .int .u8 0, .int .u8 0, .int .u8 0, .int .u8 0, .int .u8 0, .int .u8 0, .int .u8 0, .int .i64 0, .string ByteArray.empty], .int .i64 2]) (by simp [results, Try.results17, go_sem, ba_empty]) rfl ⟨rfl, by (repeat' (first | (with_reducible exact Below.refl _ _) | (with_reducible refine bplus ?_ _ _) | (with_reducible refine balloc ?_ _) | (with_reducible refine Below.drew ?_) | (with_reducible refine bdrewN ?_ _) | (with_reducible refine Below.setCell ?_ (by go_size) _)))⟩
  ·
    go_enter Try.func17, Try.ntmps17
    go_wp2
    refine bodyPost_ret (v := .tuple #[.agg #[.int .u8 0, .int .u8 0, .int .u8 0, .int .u8 0, .int .u8 0, .int .u8 0, .int .u8 0, .int .u8 0, .int .i64 0, .string ByteArray.empty], .int .i64 2]) (by simp [results, Try.results17, go_sem, ba_empty]) rfl ⟨rfl, by (repeat' (first | (with_reducible exact Below.refl _ _) | (with_reducible refine bplus ?_ _ _) | (with_reducible refine balloc ?_ _) | (with_reducible refine Below.drew ?_) | (with_reducible refine bdrewN ?_ _) | (with_reducible refine Below.setCell ?_ (by go_size) _)))⟩
set_option maxRecDepth 100000 in
set_option maxHeartbeats 1000000 in
theorem rmake_long (x : BitVec 64) (n : Int) (s : ByteArray) (hn : isNum n = true) (hs : 32768 < s.size) (w : World) :
    Calls Try.prog 17 #[.agg #[.int .u8 (by8 x 0), .int .u8 (by8 x 1), .int .u8 (by8 x 2), .int .u8 (by8 x 3), .int .u8 (by8 x 4), .int .u8 (by8 x 5), .int .u8 (by8 x 6), .int .u8 (by8 x 7)], .int .i64 n, .string s] w fun e w' => e = .returned (.tuple #[.agg #[.int .u8 0, .int .u8 0, .int .u8 0, .int .u8 0, .int .u8 0, .int .u8 0, .int .u8 0, .int .u8 0, .int .i64 0, .string ByteArray.empty], .int .i64 5]) ∧ Below w.heap.size w w' := by
  have hb := isNum_bd hn
  have h1 : decide (n < 0) = false := decide_eq_false (by omega)
  have h2 : decide (1099511627776 < n) = false := decide_eq_false (by omega)
  have h3 : decide ((32768 : Int) < (s.size : Int)) = true := decide_eq_true (by omega)
  go_enter Try.func17, Try.ntmps17
  go_wp2
  refine bodyPost_ret (v := .tuple #[.agg #[.int .u8 0, .int .u8 0, .int .u8 0, .int .u8 0, .int .u8 0, .int .u8 0, .int .u8 0, .int .u8 0, .int .i64 0, .string ByteArray.empty], .int .i64 5]) (by simp [results, Try.results17, go_sem, ba_empty]) rfl ⟨rfl, by (repeat' (first | (with_reducible exact Below.refl _ _) | (with_reducible refine bplus ?_ _ _) | (with_reducible refine balloc ?_ _) | (with_reducible refine Below.drew ?_) | (with_reducible refine bdrewN ?_ _) | (with_reducible refine Below.setCell ?_ (by go_size) _)))⟩
set_option maxRecDepth 100000 in
set_option maxHeartbeats 4000000 in
theorem rmake_to (x : BitVec 64) (n : Int) (s : ByteArray) (hn : isNum n = true) (hl : s.size ≤ 32768) (h : BitVec 64) (hh : thintF x = h) (y : List UInt8) (hy : tboxF x (strL s) = y) (w : World) :
    Calls Try.prog 17 #[.agg #[.int .u8 (by8 x 0), .int .u8 (by8 x 1), .int .u8 (by8 x 2), .int .u8 (by8 x 3), .int .u8 (by8 x 4), .int .u8 (by8 x 5), .int .u8 (by8 x 6), .int .u8 (by8 x 7)], .int .i64 n, .string s] w fun e w' => e = .returned (.tuple #[.agg #[.int .u8 (by8 h 0), .int .u8 (by8 h 1), .int .u8 (by8 h 2), .int .u8 (by8 h 3), .int .u8 (by8 h 4), .int .u8 (by8 h 5), .int .u8 (by8 h 6), .int .u8 (by8 h 7), .int .i64 n, .string ⟨y.toArray⟩], .int .i64 0]) ∧ Below w.heap.size w w' := by
  obtain ⟨k, HK⟩ : ∃ k, Hid (tkeyF x = k) := ⟨_, rfl⟩
  have HH := Lib.hid hh
  have HY : Hid (sealF k (strL s) = y) := by show _ = _; rw [← HK.out]; exact hy
  have hb := isNum_bd hn
  have h1 : decide (n < 0) = false := decide_eq_false (by omega)
  have h2 : decide (1099511627776 < n) = false := decide_eq_false (by omega)
  have h3 : decide ((32768 : Int) < (s.size : Int)) = false := decide_eq_false (by omega)
  have HL : Hid ((strL s).length ≤ 65536) := by show _ ≤ _; rw [strL_len]; omega
  have HO := Lib.hid (((Ow.start w).key #[.int .u8 (by8 x 0), .int .u8 (by8 x 1), .int .u8 (by8 x 2), .int .u8 (by8 x 3), .int .u8 (by8 x 4), .int .u8 (by8 x 5), .int .u8 (by8 x 6), .int .u8 (by8 x 7)] 22 w.heap.size rfl).key #[.int .u8 0, .int .u8 0, .int .u8 0, .int .u8 0, .int .u8 0, .int .u8 0, .int .u8 0, .int .u8 0, .int .i64 0, .string ByteArray.empty] 34 (w.heap.size + 1) (by simp))
  clear hh hy hn hb hl
  go_enter Try.func17, Try.ntmps17
  go_wp2_with fail
  refine wp_opq (fun W => Ow W w [⟨w.heap.size + 1, 34, #[.int .u8 0, .int .u8 0, .int .u8 0, .int .u8 0, .int .u8 0, .int .u8 0, .int .u8 0, .int .u8 0, .int .i64 0, .string ByteArray.empty]⟩, ⟨w.heap.size, 22, #[.int .u8 (by8 x 0), .int .u8 (by8 x 1), .int .u8 (by8 x 2), .int .u8 (by8 x 3), .int .u8 (by8 x 4), .int .u8 (by8 x 5), .int .u8 (by8 x 6), .int .u8 (by8 x 7)]⟩]) HO.out ?_
  intro W2 O2
  have HB := O2.has (b := w.heap.size) (t := 22) (cs := #[.int .u8 (by8 x 0), .int .u8 (by8 x 1), .int .u8 (by8 x 2), .int .u8 (by8 x 3), .int .u8 (by8 x 4), .int .u8 (by8 x 5), .int .u8 (by8 x 6), .int .u8 (by8 x 7)]) (by simp)
  have hc := HB.cell
  have lt := HB.lt
  have HO2 := Lib.hid O2
  (have q0 := hc 0); (have q1 := hc 1); (have q2 := hc 2); (have q3 := hc 3); (have q4 := hc 4); (have q5 := hc 5); (have q6 := hc 6); (have q7 := hc 7)
  simp only [List.getElem?_toArray, List.getElem?_cons_succ, List.getElem?_cons_zero] at q0 q1 q2 q3 q4 q5 q6 q7
  clear HB O2 HO hc
  refine wp_region_rc 10 2 (by kernel_rfl) (by kernel_rfl) (by kernel_rfl) (by kernel_rfl) ?_
  simp only [List.take_succ_cons, List.take_zero]
  repeat (first
    | (refine B_skip ?_ ?_; (· rfl); (try simp only [Act.put, List.setIfInBounds_toArray, List.set_cons_zero, List.set_cons_succ]))
    | (refine B_move rfl ?_ ?_; (· rfl); (try simp only [Act.eval, Act.put, Array.getD_eq_getD_getElem?, List.getElem?_toArray, List.getElem?_cons_succ, List.getElem?_cons_zero, Option.getD_some, List.setIfInBounds_toArray, List.set_cons_zero, List.set_cons_succ]))
    | (refine B_plain ?_ ?_; (· rfl); intro K hK; go_big_quiet_op; with_reducible refine hK _ ?_; clear hK K)
    | (refine B_callX (v := ?_) (f := 19) rfl (by kernel_rfl) ?_ (fun xq => ?_) ?_; rotate_left; (· rfl); (· ((simp only [List.map_toArray, List.map_cons, List.map_nil, Act.eval, Array.getD_eq_getD_getElem?, List.getElem?_toArray, List.getElem?_cons_succ, List.getElem?_cons_zero, Option.getD_some]); with_reducible apply retB; with_reducible exact (rhint_to x h HH.out _))); (try simp only [Act.put, List.setIfInBounds_toArray, List.set_cons_zero, List.set_cons_succ]))
    | (refine B_callX (v := ?_) (f := 60) rfl (by kernel_rfl) ?_ (fun xq => ?_) ?_; rotate_left; (· rfl); (· ((simp only [List.map_toArray, List.map_cons, List.map_nil, Act.eval, Array.getD_eq_getD_getElem?, List.getElem?_toArray, List.getElem?_cons_succ, List.getElem?_cons_zero, Option.getD_some]); with_reducible apply retB; with_reducible exact (rkey_to x k HK.out _))); (try simp only [Act.put, List.setIfInBounds_toArray, List.set_cons_zero, List.set_cons_succ]))
    | (refine B_bytesT (tx := s) rfl rfl rfl (by rfl) ?_ ?_; (· rfl))
    | (refine B_callRR (fun v w => BSl w v y) (stays_bsl _) (f := 59) rfl rfl (by kernel_rfl) ?_ (fun xq vs hvs => ?_) ?_; (· rfl); (· (obtain ⟨a1, _, rfl, e1, a2, _, rfl, e2, e3⟩ := hvs; obtain rfl : a1 = .agg #[.int .u8 (by8 k 0), .int .u8 (by8 k 1), .int .u8 (by8 k 2), .int .u8 (by8 k 3), .int .u8 (by8 k 4), .int .u8 (by8 k 5), .int .u8 (by8 k 6), .int .u8 (by8 k 7)] := e1; cases e3; (with_reducible apply retR); refine (refSeal_to k a2 (strL s) HL.out y HY.out _ e2).mono ?_; rintro e w' ⟨u, r1, r2, r3⟩; exact ⟨u, r1, r2, r3.bsl⟩)))
    | (refine B_strT (l := y) rfl rfl ?_ ?_; (· rfl); (try simp only [Act.put, List.setIfInBounds_toArray, List.set_cons_zero, List.set_cons_succ])))
  refine B_nil ?_ rfl ?_ ?_
  · kernel_rfl
  · rfl
  rintro _ ⟨⟨g3, d3⟩, rfl⟩
  simp only [fin, Act.put, List.setIfInBounds_toArray, List.set_cons_zero, List.set_cons_succ]
  intros
  have HO3 := Lib.hid (HO2.out.plus g3 d3)
  refine step_one (n := 1) (k := 10) (by kernel_rfl) (by rfl) (by rfl) ?_
  intro K hK
  refine HO3.out.storeAt 34 (.tmp 6) (.tmp 28) (by rfl) 0 (by rfl) #[.int .u8 (by8 h 0), .int .u8 (by8 h 1), .int .u8 (by8 h 2), .int .u8 (by8 h 3), .int .u8 (by8 h 4), .int .u8 (by8 h 5), .int .u8 (by8 h 6), .int .u8 (by8 h 7), .int .i64 n, .string ⟨y.toArray⟩] (by rfl) (by kernel_rfl) (by simp) (by simp [Value.oneCell']) (fun w5 O5 => hK _ _ ?_)
  clear hK K
  rw [writeAt_all _ _ (by simp)] at O5
  have HB := O5.has (List.mem_cons_self ..)
  have hd := HB.cell
  have HO5 := Lib.hid O5
  clear O5 HB HO2 HO3 q0 q1 q2 q3 q4 q5 q6 q7 lt
  refine last_one (k := 11) (by kernel_rfl) (by kernel_rfl) (by rfl) ?_ ?_
  · rfl
  intro K hK
  go_simp
  refine hK _ _ ?_
  clear hK K
  go_wp2
  refine bodyPost_ret (v := .tuple #[.agg #[.int .u8 (by8 h 0), .int .u8 (by8 h 1), .int .u8 (by8 h 2), .int .u8 (by8 h 3), .int .u8 (by8 h 4), .int .u8 (by8 h 5), .int .u8 (by8 h 6), .int .u8 (by8 h 7), .int .i64 n, .string ⟨y.toArray⟩], .int .i64 0]) (by simp [results, Try.results17, go_sem, hd]) rfl ⟨rfl, HO5.out.below⟩

end Go.Proofs.Ytghaiplhakeahaa
