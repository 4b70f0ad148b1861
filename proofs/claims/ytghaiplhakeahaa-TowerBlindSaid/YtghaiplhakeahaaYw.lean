/- baizelaw51: contracts of fair, Own, made. -/
import Derived.Test.YtghaiplhakeahaaYr
import Derived.Test.YtghaiplhakeahaaYe
import Derived.Test.YtghaiplhakeahaaYt
import Derived.Test.YtghaiplhakeahaaYo
namespace Go.Proofs.Ytghaiplhakeahaa
set_option linter.unusedSimpArgs false
set_option linter.unusedVariables false
open Go.RowKit Go.WideMaps Go.ChangeMaps Go.Maps

/-! ### fair -/
theorem Rws.elem {w : World} {ao : Option Addr} {n cap sz : Nat} {E : Nat → List Value} (h : Rws w (.slice ao n cap) n sz E) {i : Nat} (hi : i < n) : ∃ r o, ao = some ⟨r, o, none⟩ ∧ r < w.heap.size ∧ ∀ j u, (E i)[j]? = some u → w.cell? ⟨r, o + i * sz + j, none⟩ = some u := by
  obtain ⟨ao', cap', e, h1, h2⟩ := h
  cases e
  rcases h2 with h2 | ⟨r, o, rfl, hlt, hc⟩
  · omega
  · exact ⟨r, o, rfl, hlt, fun j u hj => by rw [Nat.add_assoc]; exact hc i hi j u hj⟩
def fairP (n : Nat) (D : Nat → DeedV) : Prop := n ≤ 40 ∧ ∀ i, i < n → (D i).claim.size ≤ 300
set_option maxRecDepth 100000 in
set_option maxHeartbeats 2000000 in
theorem fair_to (v : Value) (n : Nat) (D : Nat → DeedV) (hn : n ≤ maxLen) (w : World) (hv : Rws w v n 12 (fun i => (D i).cells)) (b : Bool) (hb : b = true ↔ fairP n D) :
    Calls Try.prog 23 #[v] w fun e w' => e = .returned (.bool b) ∧ w' = w := by
  have hml : n ≤ 9223372036854775807 := by unfold maxLen at hn; omega
  obtain ⟨ao, cap, rfl, hcap, -⟩ := hv.slice
  have HV := Lib.hid hv
  have HB := Lib.hid hb
  clear hv hb hn
  go_enter Try.func23, Try.ntmps23
  go_wp2_with fail
  go_loop [3] (fun vi => ∃ i : Nat, vi = .int .i64 i ∧ i ≤ n ∧ ∀ j, j < i → (D j).claim.size ≤ 300) (fun vi => n - (intOf vi).toNat)
  case atStart => exact ⟨0, rfl, by omega, fun j hj => by omega⟩
  case round =>
    obtain ⟨i, rfl, hi, hno⟩ := hrel
    have HNO := Lib.hid hno
    clear hno
    by_cases hlt : i < n
    ·
      obtain ⟨r, o, rfl, hr, hcell⟩ := HV.out.elem hlt
      have c11 : w.cell? ⟨r, o + i * 12 + 11, none⟩ = some (.string (D i).claim) := hcell 11 _ rfl
      clear hcell
      obtain ⟨s, hs⟩ : ∃ s, (D i).claim = s := ⟨_, rfl⟩
      rw [hs] at c11
      have HS := Lib.hid hs
      clear hs
      by_cases h3 : 300 < s.size
      · have hd : decide ((300 : Int) < (s.size : Int)) = true := decide_eq_true (by omega)
        have hbf : b = false := by
          cases b with
          | false => rfl
          | true =>
            have := (HB.out.1 rfl).2 i hlt
            rw [HS.out] at this
            omega
        subst hbf
        go_wp2
        go_ret
        exact ⟨rfl, rfl⟩
      · have hd : decide ((300 : Int) < (s.size : Int)) = false := decide_eq_false (by omega)
        go_wp2
        refine ⟨⟨i + 1, by simp, by omega, fun j hj => ?_⟩, by simp [intOf]; omega⟩
        rcases (by omega : j < i ∨ j = i) with h | rfl
        · exact HNO.out j h
        · rw [HS.out]; omega
    · obtain rfl : i = n := by omega
      by_cases h40 : i ≤ 40
      · have hd : decide ((i : Int) ≤ 40) = true := decide_eq_true (by omega)
        have hbt : b = true := HB.out.2 ⟨h40, HNO.out⟩
        subst hbt
        go_wp2
        go_ret
        exact ⟨rfl, rfl⟩
      · have hd : decide ((i : Int) ≤ 40) = false := decide_eq_false (by omega)
        have hbf : b = false := by
          cases b with
          | false => rfl
          | true => exact absurd (HB.out.1 rfl).1 h40
        subst hbf
        go_wp2
        go_ret
        exact ⟨rfl, rfl⟩

/-! ### Own -/
theorem size_setCells (b : Nat) : ∀ (vs : List Value) (w : World) (o : Nat), (w.setCells b o vs).heap.size = w.heap.size
  | [], _, _ => rfl
  | v :: r, w, o => (size_setCells b r (w.setCell ⟨b, o, none⟩ v) (o + 1)).trans (by simp)
theorem BSl.other {w w' : World} {l : List UInt8} {r o n c b : Nat} (h : BSl w (.slice (some ⟨r, o, none⟩) n c) l) (hb : r ≠ b) (hk : ∀ j, j ≠ b → w'.heap[j]? = w.heap[j]?) (hs : w'.heap.size = w.heap.size) : BSl w' (.slice (some ⟨r, o, none⟩) n c) l := by
  obtain ⟨ao, cap, e, h1, h2⟩ := h
  cases e
  refine ⟨_, _, rfl, h1, h2.imp id ?_⟩
  rintro ⟨r', o', e, hlt, hc⟩
  cases e
  refine ⟨r, o, rfl, by omega, fun i hi => ?_⟩
  rw [← hc i hi]
  exact World.cell?_of_block (a := ⟨r, o + i, none⟩) (hk r hb)
theorem Ow.storeX {P : Program} {w w0 : World} {ops : Array Oper} {rest : List Oper} {o : Oper} {a : Act} {Q : Exit → Act → World → Prop} {L : List Blk} {b : Nat} {t : TypeId} {cs : Array Value} (O : Ow w w0 (⟨b, t, cs⟩ :: L)) (hgd : o.guard = none) (ty : TypeId) (x y : Operand) (ho : o.op = .store ty x y)
    (hx : a.eval x = .pointer (some ⟨b, 0, none⟩)) (vs : Array Value) (hy : a.eval y = .agg vs) (hi : (P.info? ty).map (·.size) = some vs.size) (hs : vs.size = cs.size) (h1 : ∀ v ∈ vs.toList, v.oneCell' = true)
    (h : ∀ w', Ow w' w0 (⟨b, t, vs⟩ :: L) → (∀ j, j ≠ b → w'.heap[j]? = w.heap[j]?) → w'.heap.size = w.heap.size → wpList P ops Q rest (a.put o.dst undef) w') : wpList P ops Q (o :: rest) a w :=
  wpList_plain hgd fun _ hK => wp_store_mid ty x y ho b 0 vs hx hy (O.mem.thereAt (List.mem_cons_self ..) 0 _ (by omega)) hi (by have := all_oneCell_toArray h1; simpa using this) (hK _ _ (h _ (by
    have O' : Ow (w.setCells b 0 vs.toList) w0 (⟨b, t, writeAt cs 0 vs.toList⟩ :: L) := ⟨Mem.cells (B := []) vs.toList 0 O.mem, New.cons (O.new ⟨b, t, cs⟩ (List.mem_cons_self ..)) fun x hx => O.new x (List.mem_cons_of_mem _ hx)⟩
    rw [writeAt_all _ _ (by simpa using hs)] at O'
    simpa using O') (fun j hj => heap_setCells b _ w 0 j hj) (size_setCells b _ w 0)))
set_option maxRecDepth 100000 in
set_option maxHeartbeats 2000000 in
theorem own_to (dh : BitVec 64) (n : Int) (s : ByteArray) (w : World) :
    Calls Try.prog 25 #[rAgg dh n s] w fun e w' => ∃ u, e = .returned (.agg #[.int .u8 (by8 dh 0), .int .u8 (by8 dh 1), .int .u8 (by8 dh 2), .int .u8 (by8 dh 3), .int .u8 (by8 dh 4), .int .u8 (by8 dh 5), .int .u8 (by8 dh 6), .int .u8 (by8 dh 7), .int .i64 n, u]) ∧ Below w.heap.size w w' ∧ BSl w' u (strL s) := by
  obtain ⟨bv, bg, bd, hconv, hB⟩ := conv_fn2 s
  have HO := Lib.hid (((Ow.start w).key #[.int .u8 (by8 dh 0), .int .u8 (by8 dh 1), .int .u8 (by8 dh 2), .int .u8 (by8 dh 3), .int .u8 (by8 dh 4), .int .u8 (by8 dh 5), .int .u8 (by8 dh 6), .int .u8 (by8 dh 7), .int .i64 n, .string s] 34 w.heap.size rfl).key #[.int .u8 0, .int .u8 0, .int .u8 0, .int .u8 0, .int .u8 0, .int .u8 0, .int .u8 0, .int .u8 0, .int .i64 0, .slice none 0 0] 29 (w.heap.size + 1) (by simp))
  obtain ⟨hB1, cu, hu⟩ := hB ((w.alloc (.cells #[.int .u8 (by8 dh 0), .int .u8 (by8 dh 1), .int .u8 (by8 dh 2), .int .u8 (by8 dh 3), .int .u8 (by8 dh 4), .int .u8 (by8 dh 5), .int .u8 (by8 dh 6), .int .u8 (by8 dh 7), .int .i64 n, .string s] 34)).alloc (.cells #[.int .u8 0, .int .u8 0, .int .u8 0, .int .u8 0, .int .u8 0, .int .u8 0, .int .u8 0, .int .u8 0, .int .i64 0, .slice none 0 0] 29))
  have hcv := hconv ((w.alloc (.cells #[.int .u8 (by8 dh 0), .int .u8 (by8 dh 1), .int .u8 (by8 dh 2), .int .u8 (by8 dh 3), .int .u8 (by8 dh 4), .int .u8 (by8 dh 5), .int .u8 (by8 dh 6), .int .u8 (by8 dh 7), .int .i64 n, .string s] 34)).alloc (.cells #[.int .u8 0, .int .u8 0, .int .u8 0, .int .u8 0, .int .u8 0, .int .u8 0, .int .u8 0, .int .u8 0, .int .i64 0, .slice none 0 0] 29))
  rw [hu] at hcv hB1
  have hz : ((w.alloc (.cells #[.int .u8 (by8 dh 0), .int .u8 (by8 dh 1), .int .u8 (by8 dh 2), .int .u8 (by8 dh 3), .int .u8 (by8 dh 4), .int .u8 (by8 dh 5), .int .u8 (by8 dh 6), .int .u8 (by8 dh 7), .int .i64 n, .string s] 34)).alloc (.cells #[.int .u8 0, .int .u8 0, .int .u8 0, .int .u8 0, .int .u8 0, .int .u8 0, .int .u8 0, .int .u8 0, .int .i64 0, .slice none 0 0] 29)).heap.size = w.heap.size + 1 + 1 := by simp
  rw [hz] at hcv hB1
  have HB1 := Lib.hid hB1
  have HO1 := Lib.hid (HO.out.plus (bg ((w.alloc (.cells #[.int .u8 (by8 dh 0), .int .u8 (by8 dh 1), .int .u8 (by8 dh 2), .int .u8 (by8 dh 3), .int .u8 (by8 dh 4), .int .u8 (by8 dh 5), .int .u8 (by8 dh 6), .int .u8 (by8 dh 7), .int .i64 n, .string s] 34)).alloc (.cells #[.int .u8 0, .int .u8 0, .int .u8 0, .int .u8 0, .int .u8 0, .int .u8 0, .int .u8 0, .int .u8 0, .int .i64 0, .slice none 0 0] 29))) (bd ((w.alloc (.cells #[.int .u8 (by8 dh 0), .int .u8 (by8 dh 1), .int .u8 (by8 dh 2), .int .u8 (by8 dh 3), .int .u8 (by8 dh 4), .int .u8 (by8 dh 5), .int .u8 (by8 dh 6), .int .u8 (by8 dh 7), .int .i64 n, .string s] 34)).alloc (.cells #[.int .u8 0, .int .u8 0, .int .u8 0, .int .u8 0, .int .u8 0, .int .u8 0, .int .u8 0, .int .u8 0, .int .i64 0, .slice none 0 0] 29))))
  clear hB hconv hB1 hu HO hz
  go_enter Try.func25, Try.ntmps25
  go_wp2_with (refine HO1.out.storeX rfl 29 (.tmp 2) (.tmp 10) rfl (by rfl) #[.int .u8 (by8 dh 0), .int .u8 (by8 dh 1), .int .u8 (by8 dh 2), .int .u8 (by8 dh 3), .int .u8 (by8 dh 4), .int .u8 (by8 dh 5), .int .u8 (by8 dh 6), .int .u8 (by8 dh 7), .int .i64 n, .slice (some ⟨w.heap.size + 1 + 1, 0, none⟩) s.size cu] (by rfl) (by kernel_rfl) (by rfl) (by simp [Value.oneCell']) ?_; intro w3 O3 hk3 hs3; (have HB3 := Lib.hid (HB1.out.other (b := w.heap.size + 1) (by omega) hk3 hs3)); clear hk3 hs3)
  have HBq := O3.has (List.mem_cons_self ..)
  have hd := HBq.cell
  refine bodyPost_ret (v := .agg #[.int .u8 (by8 dh 0), .int .u8 (by8 dh 1), .int .u8 (by8 dh 2), .int .u8 (by8 dh 3), .int .u8 (by8 dh 4), .int .u8 (by8 dh 5), .int .u8 (by8 dh 6), .int .u8 (by8 dh 7), .int .i64 n, .slice (some ⟨w.heap.size + 1 + 1, 0, none⟩) s.size cu]) (by simp [results, Try.results25, go_sem, hd]) rfl ?_
  exact ⟨_, rfl, O3.below, HB3.out⟩

/-! ### made -/
noncomputable def madeA (d : DeedV) : AP := if d.raw = true then ⟨thintF d.nonce, d.n, strL d.claim⟩ else if isNum d.n = true then ⟨thintF d.nonce, d.n, tboxF d.nonce (strL d.claim)⟩ else ⟨thintF d.nonce, d.n, []⟩
set_option maxRecDepth 100000 in
set_option maxHeartbeats 4000000 in
theorem made_raw (dr rw_ : Bool) (nx : BitVec 64) (n : Int) (s : ByteArray) (hr : rw_ = true) (w : World) :
    Calls Try.prog 26 #[(⟨dr, rw_, nx, n, s⟩ : DeedV).agg] w fun e w' => e = .returned (rAgg (thintF nx) n s) ∧ Below w.heap.size w w' := by
  subst hr
  obtain ⟨rw_, hr⟩ : ∃ b, b = true := ⟨true, rfl⟩
  rw [← hr]
  obtain ⟨x, HXX⟩ : ∃ x, Hid (thintF nx = x) := ⟨_, rfl⟩
  have HO := Lib.hid (((Ow.start w).key #[.bool dr, .bool rw_, .int .u8 (by8 nx 0), .int .u8 (by8 nx 1), .int .u8 (by8 nx 2), .int .u8 (by8 nx 3), .int .u8 (by8 nx 4), .int .u8 (by8 nx 5), .int .u8 (by8 nx 6), .int .u8 (by8 nx 7), .int .i64 n, .string s] 52 w.heap.size rfl).key #[.int .u8 0, .int .u8 0, .int .u8 0, .int .u8 0, .int .u8 0, .int .u8 0, .int .u8 0, .int .u8 0, .int .i64 0, .string ByteArray.empty] 34 (w.heap.size + 1) (by simp))
  rw [HXX.out]
  subst hr
  go_enter Try.func26, Try.ntmps26
  go_wp2_with fail
  refine wp_region_rc 8 1 (by kernel_rfl) (by kernel_rfl) (by kernel_rfl) (by kernel_rfl) ?_
  simp only [List.take_succ_cons, List.take_zero]
  repeat (first
    | (refine B_skip ?_ ?_; (· rfl); (try simp only [Act.put, List.setIfInBounds_toArray, List.set_cons_zero, List.set_cons_succ]))
    | (refine B_move rfl ?_ ?_; (· rfl); (try simp only [Act.eval, Act.put, Array.getD_eq_getD_getElem?, List.getElem?_toArray, List.getElem?_cons_succ, List.getElem?_cons_zero, Option.getD_some, List.setIfInBounds_toArray, List.set_cons_zero, List.set_cons_succ]))
    | (refine B_plain ?_ ?_; (· rfl); intro K hK; go_big_quiet_op; with_reducible refine hK _ ?_; clear hK K)
    | (refine B_callX (v := ?_) (f := 19) rfl (by kernel_rfl) ?_ (fun xq => ?_) ?_; rotate_left; (· rfl); (· ((simp only [List.map_toArray, List.map_cons, List.map_nil, Act.eval, Array.getD_eq_getD_getElem?, List.getElem?_toArray, List.getElem?_cons_succ, List.getElem?_cons_zero, Option.getD_some]); with_reducible apply retB; with_reducible exact (rhint_to nx x HXX.out _))); (try simp only [Act.put, List.setIfInBounds_toArray, List.set_cons_zero, List.set_cons_succ])))
  refine B_nil ?_ rfl ?_ ?_
  · kernel_rfl
  · rfl
  rintro _ ⟨⟨g3, d3⟩, rfl⟩
  simp only [fin, Act.put, List.setIfInBounds_toArray, List.set_cons_zero, List.set_cons_succ]
  refine last_one (k := 8) (by kernel_rfl) (by kernel_rfl) (by rfl) ?_ ?_
  · rfl
  intro K' hK
  refine (HO.out.plus _ _).storeAt 34 (.tmp 2) (.tmp 14) (by rfl) 0 (by rfl) #[.int .u8 (by8 x 0), .int .u8 (by8 x 1), .int .u8 (by8 x 2), .int .u8 (by8 x 3), .int .u8 (by8 x 4), .int .u8 (by8 x 5), .int .u8 (by8 x 6), .int .u8 (by8 x 7), .int .i64 n, .string s] (by rfl) (by kernel_rfl) (by simp) (by simp [Value.oneCell']) (fun w5 O5 => hK _ _ ?_)
  clear hK K'
  rw [writeAt_all _ _ (by simp)] at O5
  have HB := O5.has (List.mem_cons_self ..)
  have hd := HB.cell
  have HO5 := Lib.hid O5
  clear O5 HB
  go_wp2
  refine bodyPost_ret (v := rAgg x n s) (by simp [results, Try.results26, go_sem, hd]) rfl ⟨rfl, HO5.out.below⟩
set_option maxRecDepth 100000 in
set_option maxHeartbeats 4000000 in
theorem made_num (dr rw_ : Bool) (nx : BitVec 64) (n : Int) (s : ByteArray) (hr : rw_ = false) (hn : isNum n = true) (hl : s.size ≤ 32768) (w : World) :
    Calls Try.prog 26 #[(⟨dr, rw_, nx, n, s⟩ : DeedV).agg] w fun e w' => e = .returned (rAgg (thintF nx) n ⟨(tboxF nx (strL s)).toArray⟩) ∧ Below w.heap.size w w' := by
  subst hr
  obtain ⟨y, HY⟩ : ∃ y, Hid (tboxF nx (strL s) = y) := ⟨_, rfl⟩
  rw [HY.out]
  obtain ⟨rw_, hr⟩ : ∃ b, b = false := ⟨false, rfl⟩
  rw [← hr]
  obtain ⟨x, HXX⟩ : ∃ x, Hid (thintF nx = x) := ⟨_, rfl⟩
  have HO := Lib.hid (((Ow.start w).key #[.bool dr, .bool rw_, .int .u8 (by8 nx 0), .int .u8 (by8 nx 1), .int .u8 (by8 nx 2), .int .u8 (by8 nx 3), .int .u8 (by8 nx 4), .int .u8 (by8 nx 5), .int .u8 (by8 nx 6), .int .u8 (by8 nx 7), .int .i64 n, .string s] 52 w.heap.size rfl).key #[.int .u8 0, .int .u8 0, .int .u8 0, .int .u8 0, .int .u8 0, .int .u8 0, .int .u8 0, .int .u8 0, .int .i64 0, .string ByteArray.empty] 34 (w.heap.size + 1) (by simp))
  rw [HXX.out]
  subst hr
  have HN := Lib.hid hn
  clear hn
  go_enter Try.func26, Try.ntmps26
  go_wp2_with fail
  refine (rmake_to nx n s HN.out hl x HXX.out y HY.out _).mono ?_
  rintro e w3 ⟨rfl, hb3⟩
  have HO3 := Lib.hid (((HO.out.of_below hb3).key #[.int .u8 (by8 x 0), .int .u8 (by8 x 1), .int .u8 (by8 x 2), .int .u8 (by8 x 3), .int .u8 (by8 x 4), .int .u8 (by8 x 5), .int .u8 (by8 x 6), .int .u8 (by8 x 7), .int .i64 n, .string ⟨y.toArray⟩] 34 w3.heap.size rfl).perm (L' := ⟨w.heap.size + 1, 34, #[.int .u8 0, .int .u8 0, .int .u8 0, .int .u8 0, .int .u8 0, .int .u8 0, .int .u8 0, .int .u8 0, .int .i64 0, .string ByteArray.empty]⟩ :: [⟨w3.heap.size, 34, #[.int .u8 (by8 x 0), .int .u8 (by8 x 1), .int .u8 (by8 x 2), .int .u8 (by8 x 3), .int .u8 (by8 x 4), .int .u8 (by8 x 5), .int .u8 (by8 x 6), .int .u8 (by8 x 7), .int .i64 n, .string ⟨y.toArray⟩]⟩, ⟨w.heap.size, 52, #[.bool dr, .bool false, .int .u8 (by8 nx 0), .int .u8 (by8 nx 1), .int .u8 (by8 nx 2), .int .u8 (by8 nx 3), .int .u8 (by8 nx 4), .int .u8 (by8 nx 5), .int .u8 (by8 nx 6), .int .u8 (by8 nx 7), .int .i64 n, .string s]⟩]) (perm_cnt fun x => by simp only [cnt_append, cnt_cons, cnt_nil] <;> omega))
  clear hb3 HO
  go_wp2_with (refine HO3.out.storeL rfl 34 (.tmp 2) (.tmp 33) rfl (by rfl) #[.int .u8 (by8 x 0), .int .u8 (by8 x 1), .int .u8 (by8 x 2), .int .u8 (by8 x 3), .int .u8 (by8 x 4), .int .u8 (by8 x 5), .int .u8 (by8 x 6), .int .u8 (by8 x 7), .int .i64 n, .string ⟨y.toArray⟩] (by rfl) (by kernel_rfl) (by rfl) (by simp [Value.oneCell']) ?_; intro w5 O5)
  have HB := O5.has (List.mem_cons_self ..)
  have hd := HB.cell
  refine bodyPost_ret (v := rAgg x n ⟨y.toArray⟩) (by simp [results, Try.results26, go_sem, hd]) rfl ⟨rfl, O5.below⟩
set_option maxRecDepth 100000 in
set_option maxHeartbeats 4000000 in
theorem made_not (dr rw_ : Bool) (nx : BitVec 64) (n : Int) (s : ByteArray) (hr : rw_ = false) (hn : isNum n = false) (w : World) :
    Calls Try.prog 26 #[(⟨dr, rw_, nx, n, s⟩ : DeedV).agg] w fun e w' => e = .returned (rAgg (thintF nx) n ByteArray.empty) ∧ Below w.heap.size w w' := by
  subst hr
  obtain ⟨rw_, hr⟩ : ∃ b, b = false := ⟨false, rfl⟩
  rw [← hr]
  obtain ⟨x, HXX⟩ : ∃ x, Hid (thintF nx = x) := ⟨_, rfl⟩
  have HO := Lib.hid (((Ow.start w).key #[.bool dr, .bool rw_, .int .u8 (by8 nx 0), .int .u8 (by8 nx 1), .int .u8 (by8 nx 2), .int .u8 (by8 nx 3), .int .u8 (by8 nx 4), .int .u8 (by8 nx 5), .int .u8 (by8 nx 6), .int .u8 (by8 nx 7), .int .i64 n, .string s] 52 w.heap.size rfl).key #[.int .u8 0, .int .u8 0, .int .u8 0, .int .u8 0, .int .u8 0, .int .u8 0, .int .u8 0, .int .u8 0, .int .i64 0, .string ByteArray.empty] 34 (w.heap.size + 1) (by simp))
  rw [HXX.out]
  subst hr
  have HN := Lib.hid hn
  clear hn
  go_enter Try.func26, Try.ntmps26
  go_wp2_with fail
  refine (rmake_range nx n s HN.out _).mono ?_
  rintro e w3 ⟨rfl, hb3⟩
  have HO3 := Lib.hid ((HO.out.of_below hb3).key #[.int .u8 0, .int .u8 0, .int .u8 0, .int .u8 0, .int .u8 0, .int .u8 0, .int .u8 0, .int .u8 0, .int .i64 0, .string ByteArray.empty] 34 w3.heap.size rfl)
  clear hb3 HO
  go_wp2_with fail
  obtain ⟨b5, hb5⟩ : ∃ b, b = w3.heap.size := ⟨_, rfl⟩
  simp only [← hb5] at HO3 ⊢
  refine wp_opq (fun W => Ow W w (⟨b5, 34, #[.int .u8 0, .int .u8 0, .int .u8 0, .int .u8 0, .int .u8 0, .int .u8 0, .int .u8 0, .int .u8 0, .int .i64 0, .string ByteArray.empty]⟩ :: [⟨w.heap.size + 1, 34, #[.int .u8 0, .int .u8 0, .int .u8 0, .int .u8 0, .int .u8 0, .int .u8 0, .int .u8 0, .int .u8 0, .int .i64 0, .string ByteArray.empty]⟩, ⟨w.heap.size, 52, #[.bool dr, .bool false, .int .u8 (by8 nx 0), .int .u8 (by8 nx 1), .int .u8 (by8 nx 2), .int .u8 (by8 nx 3), .int .u8 (by8 nx 4), .int .u8 (by8 nx 5), .int .u8 (by8 nx 6), .int .u8 (by8 nx 7), .int .i64 n, .string s]⟩])) HO3.out ?_
  intro W4 O4
  have HO4 := Lib.hid O4
  (have hq := O4.has (b := w.heap.size) (t := 52) (cs := #[.bool dr, .bool false, .int .u8 (by8 nx 0), .int .u8 (by8 nx 1), .int .u8 (by8 nx 2), .int .u8 (by8 nx 3), .int .u8 (by8 nx 4), .int .u8 (by8 nx 5), .int .u8 (by8 nx 6), .int .u8 (by8 nx 7), .int .i64 n, .string s]) (by simp)); (have q2 := hq.cell 2); (have q3 := hq.cell 3); (have q4 := hq.cell 4); (have q5 := hq.cell 5); (have q6 := hq.cell 6); (have q7 := hq.cell 7); (have q8 := hq.cell 8); (have q9 := hq.cell 9); (have q10 := hq.cell 10); (have lq := hq.lt)
  simp only [List.getElem?_toArray, List.getElem?_cons_succ, List.getElem?_cons_zero] at q2 q3 q4 q5 q6 q7 q8 q9 q10
  clear O4 hq HO3 hb5
  refine wp_region_rc 6 1 (by kernel_rfl) (by kernel_rfl) (by kernel_rfl) (by kernel_rfl) ?_
  simp only [List.take_succ_cons, List.take_zero]
  repeat (first
    | (refine B_skip ?_ ?_; (· rfl); (try simp only [Act.put, List.setIfInBounds_toArray, List.set_cons_zero, List.set_cons_succ]))
    | (refine B_move rfl ?_ ?_; (· rfl); (try simp only [Act.eval, Act.put, Array.getD_eq_getD_getElem?, List.getElem?_toArray, List.getElem?_cons_succ, List.getElem?_cons_zero, Option.getD_some, List.setIfInBounds_toArray, List.set_cons_zero, List.set_cons_succ]))
    | (refine B_plain ?_ ?_; (· rfl); intro K hK; go_big_quiet_op; with_reducible refine hK _ ?_; clear hK K)
    | (refine B_callX (v := ?_) (f := 19) rfl (by kernel_rfl) ?_ (fun xq => ?_) ?_; rotate_left; (· rfl); (· ((simp only [List.map_toArray, List.map_cons, List.map_nil, Act.eval, Array.getD_eq_getD_getElem?, List.getElem?_toArray, List.getElem?_cons_succ, List.getElem?_cons_zero, Option.getD_some]); with_reducible apply retB; with_reducible exact (rhint_to nx x HXX.out _))); (try simp only [Act.put, List.setIfInBounds_toArray, List.set_cons_zero, List.set_cons_succ])))
  refine B_nil ?_ rfl ?_ ?_
  · kernel_rfl
  · rfl
  rintro _ ⟨⟨g4, d4⟩, rfl⟩
  simp only [fin, Act.put, List.setIfInBounds_toArray, List.set_cons_zero, List.set_cons_succ]
  refine last_one (k := 6) (by kernel_rfl) (by kernel_rfl) (by rfl) ?_ ?_
  · rfl
  intro K' hK
  refine (HO4.out.plus _ _).storeAt 34 (.tmp 3) (.tmp 32) (by rfl) 0 (by rfl) #[.int .u8 (by8 x 0), .int .u8 (by8 x 1), .int .u8 (by8 x 2), .int .u8 (by8 x 3), .int .u8 (by8 x 4), .int .u8 (by8 x 5), .int .u8 (by8 x 6), .int .u8 (by8 x 7), .int .i64 n, .string ByteArray.empty] (by rfl) (by kernel_rfl) (by simp) (by simp [Value.oneCell']) (fun w5 O5 => hK _ _ ?_)
  clear hK K' q2 q3 q4 q5 q6 q7 q8 q9 q10 lq
  rw [writeAt_all _ _ (by simp)] at O5
  have hq := O5.has (List.mem_cons_self ..)
  (have a0 := hq.cell 0); (have a1 := hq.cell 1); (have a2 := hq.cell 2); (have a3 := hq.cell 3); (have a4 := hq.cell 4); (have a5 := hq.cell 5); (have a6 := hq.cell 6); (have a7 := hq.cell 7); (have a8 := hq.cell 8); (have a9 := hq.cell 9); (have la := hq.lt)
  simp only [List.getElem?_toArray, List.getElem?_cons_succ, List.getElem?_cons_zero] at a0 a1 a2 a3 a4 a5 a6 a7 a8 a9
  have HO5 := Lib.hid (O5.perm (L' := ⟨w.heap.size + 1, 34, #[.int .u8 0, .int .u8 0, .int .u8 0, .int .u8 0, .int .u8 0, .int .u8 0, .int .u8 0, .int .u8 0, .int .i64 0, .string ByteArray.empty]⟩ :: [⟨b5, 34, #[.int .u8 (by8 x 0), .int .u8 (by8 x 1), .int .u8 (by8 x 2), .int .u8 (by8 x 3), .int .u8 (by8 x 4), .int .u8 (by8 x 5), .int .u8 (by8 x 6), .int .u8 (by8 x 7), .int .i64 n, .string ByteArray.empty]⟩, ⟨w.heap.size, 52, #[.bool dr, .bool false, .int .u8 (by8 nx 0), .int .u8 (by8 nx 1), .int .u8 (by8 nx 2), .int .u8 (by8 nx 3), .int .u8 (by8 nx 4), .int .u8 (by8 nx 5), .int .u8 (by8 nx 6), .int .u8 (by8 nx 7), .int .i64 n, .string s]⟩]) (perm_cnt fun x => by simp only [cnt_append, cnt_cons, cnt_nil] <;> omega))
  clear O5 hq HO4
  go_wp2_with (refine HO5.out.storeL rfl 34 (.tmp 2) (.tmp 33) rfl (by rfl) #[.int .u8 (by8 x 0), .int .u8 (by8 x 1), .int .u8 (by8 x 2), .int .u8 (by8 x 3), .int .u8 (by8 x 4), .int .u8 (by8 x 5), .int .u8 (by8 x 6), .int .u8 (by8 x 7), .int .i64 n, .string ByteArray.empty] (by rfl) (by kernel_rfl) (by rfl) (by simp [Value.oneCell']) ?_; intro w6 O6)
  have HB := O6.has (List.mem_cons_self ..)
  have hd := HB.cell
  refine bodyPost_ret (v := rAgg x n ByteArray.empty) (by simp [results, Try.results26, go_sem, hd]) rfl ⟨rfl, O6.below⟩
theorem made_to (d : DeedV) (h300 : d.claim.size ≤ 300) (a : AP) (ha : madeA d = a) (w : World) :
    Calls Try.prog 26 #[d.agg] w fun e w' => e = .returned (rAgg a.h a.n ⟨a.l.toArray⟩) ∧ Below w.heap.size w w' := by
  obtain ⟨dr, rw_, nx, n, s⟩ := d
  unfold madeA at ha
  simp only at ha h300
  cases hr : rw_ with
  | true =>
    rw [if_pos hr] at ha
    subst ha
    rw [mk_strL]
    exact made_raw dr true nx n s rfl w
  | false =>
    rw [if_neg (by rw [hr]; simp)] at ha
    cases hn : isNum n with
    | true =>
      rw [if_pos hn] at ha
      subst ha
      exact made_num dr false nx n s rfl hn (by omega) w
    | false =>
      rw [if_neg (by simp [hn])] at ha
      subst ha
      exact made_not dr false nx n s rfl hn w


/-! ### Plain: what is kept of one hint -/
noncomputable def lookH (T : TWS) (h : BitVec 64) : Option AP := (idx T.all h).map fun i => T.all.getD i default
theorem lookH_find (T : TWS) (h : BitVec 64) : lookH T h = T.all.find? fun a => a.h == h := by
  unfold lookH idx
  induction T.all with
  | nil => rfl
  | cons a l ih =>
    rw [List.findIdx?_cons, List.find?_cons]
    cases hh : a.h == h with
    | true => simp
    | false =>
      rw [← ih]
      simp only [Bool.false_eq_true, if_false, Option.map_map]
      cases l.findIdx? (fun a => a.h == h) with
      | none => rfl
      | some i => simp
theorem lookH_drop (T : TWS) (hd : Dis T.all) (x h : BitVec 64) : lookH (dropT T x) h = if x = h then none else lookH T h := by
  unfold dropT
  cases hi : idx T.all x with
  | none =>
    simp only
    by_cases e : x = h
    · rw [if_pos e, ← e]
      unfold lookH
      rw [hi]; rfl
    · rw [if_neg e]
  | some i =>
    simp only
    obtain ⟨h1, h2⟩ := idx_some hi
    rw [lookH_find, lookH_find]
    simp only
    have e0 : T.all = T.all.take i ++ T.all.getD i default :: T.all.drop (i + 1) := by
      rw [List.getD_eq_getElem?_getD, List.getElem?_eq_getElem h1, Option.getD_some]
      simp
    rw [List.eraseIdx_eq_take_drop_succ]
    by_cases e : x = h
    · rw [if_pos e, List.find?_eq_none]
      intro a ha
      subst e
      unfold Dis at hd
      rw [e0, List.map_append, List.map_cons, List.nodup_append, List.nodup_cons] at hd
      obtain ⟨-, ⟨q1, -⟩, q2⟩ := hd
      rw [h2] at q1 q2
      rcases List.mem_append.1 ha with ha | ha
      · have := q2 a.h (List.mem_map_of_mem ha) x (List.mem_cons_self ..)
        simpa using this
      · intro hc
        have hc' : a.h = x := by simpa using hc
        exact q1 (hc' ▸ List.mem_map_of_mem ha)
    · rw [if_neg e]
      conv => rhs; rw [e0]
      rw [List.find?_append, List.find?_append, List.find?_cons]
      have : ((T.all.getD i default).h == h) = false := by rw [h2]; simpa using e
      rw [this]
theorem lookH_take (T : TWS) (a : AP) (h : BitVec 64) : lookH (takeT T a) h = if takeE T a = 0 ∧ a.h = h then some a else lookH T h := by
  unfold takeT
  by_cases hE : takeE T a = 0
  · rw [if_pos hE]
    cases hi : idx T.all a.h with
    | none =>
      simp only
      rw [lookH_find, lookH_find]
      simp only [List.find?_append, List.find?_cons, List.find?_nil]
      by_cases e : a.h = h
      · rw [if_pos ⟨hE, e⟩]
        have hn : T.all.find? (fun b => b.h == h) = none := by
          rw [List.find?_eq_none]
          intro b hb
          have := idx_none hi b hb
          rw [e] at this
          simpa using this
        rw [hn, e]
        simp
      · rw [if_neg (fun q => e q.2)]
        have : (a.h == h) = false := by simpa using e
        rw [this]
        simp
    | some i =>
      simp only
      obtain ⟨h1, h2⟩ := idx_some hi
      by_cases e : a.h = h
      · rw [if_pos ⟨hE, e⟩]
        have hi2 : idx (T.all.set i a) h = some i := by
          rw [idx_maph (map_set_h T.all i a h2) h, ← e]
          exact hi
        unfold lookH
        simp only [hi2]
        simp [h1]
      · rw [if_neg (fun q => e q.2)]
        unfold lookH
        have hm := idx_maph (map_set_h T.all i a h2) h
        simp only [hm]
        cases hj : idx T.all h with
        | none => rfl
        | some j =>
          simp only [Option.map_some, Option.some.injEq]
          obtain ⟨h3, h4⟩ := idx_some hj
          have hij : i ≠ j := by
            rintro rfl
            exact e (h2.symm.trans h4)
          rw [List.getD_eq_getElem?_getD, List.getD_eq_getElem?_getD, List.getElem?_set_ne hij]
  · rw [if_neg hE, if_neg (fun q => hE q.1)]
theorem takeE_lookH (T : TWS) (a : AP) (hr : T.all.length < T.room) : takeE T a = if isNum a.n = false then 2 else if a.l.length < 8 then 3 else if 32776 < a.l.length then 5 else match lookH T a.h with | some b => if a.n ≤ b.n then 18 else 0 | none => 0 := by
  unfold takeE lookH
  cases idx T.all a.h with
  | none => simp only [Option.map_none]; rw [if_neg (show ¬ T.room ≤ T.all.length by omega)]
  | some i => rfl
theorem seeT_lookH (T : TWS) (x : BitVec 64) (base : Int) : seeT T x base = match lookH T (thintF x) with | some a => if a.n ≤ base then ([], false) else if (openF (tkeyF x) a.l).2 = 0 then ((openF (tkeyF x) a.l).1, true) else ([], false) | none => ([], false) := by
  unfold seeT lookH
  cases idx T.all (thintF x) with
  | none => rfl
  | some i => rfl
theorem hadT_lookH (T : TWS) (x : BitVec 64) : hadT T x = (lookH T x).isSome := by
  unfold hadT lookH
  cases idx T.all x <;> rfl
theorem take_room (T : TWS) (a : AP) : (takeT T a).room = T.room := by
  unfold takeT
  split
  · split <;> rfl
  · rfl
theorem drop_room (T : TWS) (x : BitVec 64) : (dropT T x).room = T.room := by
  unfold dropT
  split <;> rfl
theorem take_len (T : TWS) (a : AP) : (takeT T a).all.length ≤ T.all.length + 1 := by
  unfold takeT
  split
  · split
    · simp
    · simp
  · omega
theorem drop_len (T : TWS) (x : BitVec 64) : (dropT T x).all.length ≤ T.all.length := by
  unfold dropT
  split
  · simp only [List.length_eraseIdx]; split <;> omega
  · exact Nat.le_refl _
/-- With all deeds, and with those of one hint: the same is kept of it. -/
structure AlRel (h : BitVec 64) (i : Nat) (T U : TWS) : Prop where
  okT : TOk T
  okU : TOk U
  rT : T.room = 100
  rU : U.room = 100
  lT : T.all.length ≤ i
  lU : U.all.length ≤ i
  eq : lookH T h = lookH U h
theorem AlRel.start (h : BitVec 64) : AlRel h 0 ⟨100, []⟩ ⟨100, []⟩ := ⟨TOk.new 100 (by omega), TOk.new 100 (by omega), rfl, rfl, Nat.le_refl _, Nat.le_refl _, rfl⟩
theorem AlRel.dropMine {h : BitVec 64} {i : Nat} {T U : TWS} (r : AlRel h i T U) : hadT T h = hadT U h ∧ AlRel h (i + 1) (dropT T h) (dropT U h) := by
  have h1 := drop_len T h
  have h2 := drop_len U h
  have := r.lT
  have := r.lU
  refine ⟨by rw [hadT_lookH, hadT_lookH, r.eq], r.okT.drop h, r.okU.drop h, by rw [drop_room, r.rT], by rw [drop_room, r.rU], by omega, by omega, ?_⟩
  rw [lookH_drop T r.okT.dis, lookH_drop U r.okU.dis, if_pos rfl, if_pos rfl]
theorem AlRel.dropOther {h : BitVec 64} {i : Nat} {T U : TWS} (r : AlRel h i T U) (x : BitVec 64) (hx : x ≠ h) : AlRel h (i + 1) (dropT T x) U := by
  have h1 := drop_len T x
  have := r.lT
  have := r.lU
  refine ⟨r.okT.drop x, r.okU, by rw [drop_room, r.rT], r.rU, by omega, by omega, ?_⟩
  rw [lookH_drop T r.okT.dis, if_neg hx, r.eq]
theorem AlRel.takeMine {h : BitVec 64} {i : Nat} {T U : TWS} (r : AlRel h i T U) (hi : i < 100) (a : AP) (ha : a.h = h) : takeE U a = takeE T a ∧ AlRel h (i + 1) (takeT T a) (takeT U a) := by
  have h1 := take_len T a
  have h2 := take_len U a
  have l1 := r.lT
  have l2 := r.lU
  have hE : takeE U a = takeE T a := by rw [takeE_lookH T a (by rw [r.rT]; omega), takeE_lookH U a (by rw [r.rU]; omega), ha, r.eq]
  refine ⟨hE, r.okT.take a, r.okU.take a, by rw [take_room, r.rT], by rw [take_room, r.rU], by omega, by omega, ?_⟩
  rw [lookH_take, lookH_take, hE, r.eq]
theorem AlRel.takeOther {h : BitVec 64} {i : Nat} {T U : TWS} (r : AlRel h i T U) (a : AP) (ha : a.h ≠ h) : AlRel h (i + 1) (takeT T a) U := by
  have h1 := take_len T a
  have l1 := r.lT
  have l2 := r.lU
  refine ⟨r.okT.take a, r.okU, by rw [take_room, r.rT], r.rU, by omega, by omega, ?_⟩
  rw [lookH_take, if_neg (fun q => ha q.2), r.eq]
theorem AlRel.see {x : BitVec 64} {i : Nat} {T U : TWS} (r : AlRel (thintF x) i T U) (base : Int) : seeT U x base = seeT T x base := by rw [seeT_lookH, seeT_lookH, r.eq]

/-! ### Two towers -/
def Tw2 (w w0 : World) (C X : List Blk) (p : Nat) (T : TWS) (q : Nat) (U : TWS) : Prop := ∃ B k B' k', Omw w w0 (B ++ (B' ++ (C ++ X))) [k, k'] ∧ TwP w0 X p T B k ∧ TwP w0 X q U B' k'
section
variable {w w0 w' : World} {C C' X X' : List Blk} {p q : Nat} {T U : TWS}
theorem Tw2.swap (h : Tw2 w w0 C X p T q U) : Tw2 w w0 C X q U p T := by
  obtain ⟨B, k, B', k', O, h1, h2⟩ := h
  exact ⟨B', k', B, k, (O.perm (perm_cnt fun x => by simp only [cnt_append, cnt_cons, cnt_nil] <;> omega)).permK (List.Perm.swap _ _ _), h2, h1⟩
theorem Tw2.fst (h : Tw2 w w0 C X p T q U) : ∃ B' k', TwP w0 X q U B' k' ∧ Tw w w0 (B' ++ C) X [k'] p T := by
  obtain ⟨B, k, B', k', O, h1, h2⟩ := h
  exact ⟨B', k', h2, B, k, O.perm (perm_cnt fun x => by simp only [cnt_append, cnt_cons, cnt_nil] <;> omega), h1⟩
theorem Tw2.of_fst {B' : List Blk} {k' : Nat × Obj} (h2 : TwP w0 X q U B' k') (h : Tw w w0 (B' ++ C) X [k'] p T) : Tw2 w w0 C X p T q U := by
  obtain ⟨B, k, O, h1⟩ := h
  exact ⟨B, k, B', k', O.perm (perm_cnt fun x => by simp only [cnt_append, cnt_cons, cnt_nil] <;> omega), h1, h2⟩
theorem Tw2.of_below (h : Tw2 w w0 C X p T q U) (hb : Below w.heap.size w w') : Tw2 w' w0 C X p T q U := by
  obtain ⟨B, k, B', k', O, h1, h2⟩ := h; exact ⟨B, k, B', k', O.of_below hb, h1, h2⟩
theorem Tw2.below (h : Tw2 w w0 C X p T q U) : Below w0.heap.size w0 w := by
  obtain ⟨B, k, B', k', O, h1, h2⟩ := h; exact O.below
theorem Tw2.park (h : Tw2 w w0 C X p T q U) {cs : Array Value} {b : Nat} {t : TypeId} (hb : b = w.heap.size) : Tw2 (w.alloc (.cells cs t)) w0 (⟨b, t, cs⟩ :: C) X p T q U := by
  obtain ⟨B, k, B', k', O, h1, h2⟩ := h; exact ⟨B, k, B', k', (O.key cs t b hb).perm (perm_cnt fun x => by simp only [cnt_append, cnt_cons, cnt_nil] <;> omega), h1, h2⟩
theorem Tw2.dropC {D : List Blk} (h : Tw2 w w0 (D ++ C) X p T q U) : Tw2 w w0 C X p T q U := by
  obtain ⟨B, k, B', k', O, h1, h2⟩ := h
  exact ⟨B, k, B', k', (O.perm (X' := D ++ (B ++ (B' ++ (C ++ X)))) (perm_cnt fun x => by simp only [cnt_append, cnt_cons, cnt_nil] <;> omega)).drop, h1, h2⟩
theorem Tw2.has (h : Tw2 w w0 C X p T q U) {b : Nat} {t : TypeId} {cs : Array Value} (hx : (⟨b, t, cs⟩ : Blk) ∈ C) : HasBlk w b t cs := by
  obtain ⟨B, k, B', k', O, h1, h2⟩ := h; exact O.blk (by simp [hx])
end
theorem take2_to {p q : Nat} {T U : TWS} (hT : TOk T) (h : BitVec 64) (n : Int) (v : Value) (l : List UInt8) {w w0 : World} {C X : List Blk} (H : Tw2 w w0 C X p T q U) (hv : BSl w v l) (E : Nat) (hE : takeE T ⟨h, n, l⟩ = E) (T' : TWS) (hT' : takeT T ⟨h, n, l⟩ = T') :
    Calls Try.prog 21 #[tptr p, .agg #[.int .u8 (by8 h 0), .int .u8 (by8 h 1), .int .u8 (by8 h 2), .int .u8 (by8 h 3), .int .u8 (by8 h 4), .int .u8 (by8 h 5), .int .u8 (by8 h 6), .int .u8 (by8 h 7), .int .i64 n, v]] w fun e w' => e = .returned (.int .i64 E) ∧ ∃ N, Tw2 w' w0 C (N ++ X) p T' q U := by
  obtain ⟨B', k', hU, H1⟩ := H.fst
  refine (take_to p T hT h n v l w w0 _ X _ H1 hv E hE T' hT').mono ?_
  rintro e w' ⟨rfl, N, h'⟩
  exact ⟨rfl, N, .of_fst (hU.mono fun x hx => by simp [hx]) h'⟩
theorem drop2_to {p q : Nat} {T U : TWS} (hT : TOk T) (x : BitVec 64) {w w0 : World} {C X : List Blk} (H : Tw2 w w0 C X p T q U) (b : Bool) (hb : hadT T x = b) (T' : TWS) (hT' : dropT T x = T') :
    Calls Try.prog 24 #[tptr p, .agg #[.int .u8 (by8 x 0), .int .u8 (by8 x 1), .int .u8 (by8 x 2), .int .u8 (by8 x 3), .int .u8 (by8 x 4), .int .u8 (by8 x 5), .int .u8 (by8 x 6), .int .u8 (by8 x 7)]] w fun e w' => e = .returned (.bool b) ∧ Tw2 w' w0 C X p T' q U := by
  obtain ⟨B', k', hU, H1⟩ := H.fst
  refine (drop_to p T hT x w w0 _ X _ H1 b hb T' hT').mono ?_
  rintro e w' ⟨rfl, h'⟩
  exact ⟨rfl, .of_fst hU h'⟩
theorem see2_to {p q : Nat} {T U : TWS} (hT : TOk T) (x : BitVec 64) (base : Int) {w w0 : World} {C X : List Blk} (H : Tw2 w w0 C X p T q U) (l : List UInt8) (b : Bool) (hE : seeT T x base = (l, b)) :
    Calls Try.prog 22 #[tptr p, .agg #[.int .u8 (by8 x 0), .int .u8 (by8 x 1), .int .u8 (by8 x 2), .int .u8 (by8 x 3), .int .u8 (by8 x 4), .int .u8 (by8 x 5), .int .u8 (by8 x 6), .int .u8 (by8 x 7)], .int .i64 base] w fun e w' => ∃ u, e = .returned (.tuple #[u, .bool b]) ∧ Below w.heap.size w w' ∧ Ans w.heap.size l u w' := by
  obtain ⟨B', k', hU, H1⟩ := H.fst
  exact see_to p T hT x base w w0 _ X _ H1 l b hE


end Go.Proofs.Ytghaiplhakeahaa
