/- tower: contracts of Clone of bytes, Hint, key, Make, and of an appointment that is cloned. -/
import Derived.Test.YtghaiplhakeahaaGs
import Derived.Test.YtghaiplhakeahaaOwa
namespace Go.Proofs.Ytghaiplhakeahaa
set_option linter.unusedSimpArgs false
set_option linter.unusedVariables false
open Go.RowKit

theorem Bys.apart {ao : Option Addr} {l : List UInt8} {S : List Blk} (h : Bys ao l S) : S.Pairwise (fun x y => x.no ≠ y.no) := by
  rcases h with ⟨-, rfl⟩ | ⟨r, t, cur, -, rfl, -⟩ <;> simp
/-- An answer, as a block beside others. -/
theorem Ans.found {w w0 W : World} {L : List Blk} {l : List UInt8} {u : Value} (h : Ans W.heap.size l u w) (M : Ow W w0 L) (hx : Ext W w) : ∃ B, Ow w w0 (B ++ L) ∧ ∀ w1, Msg w1 B u l := by
  obtain ⟨ao, cap, S, rfl, ⟨h1, h2⟩, h3, h4⟩ := h
  refine ⟨S, M.found hx h3.apart h4, fun w1 => ⟨bcs_len l, ao, cap, rfl, ⟨h1, fun h => ⟨?_, h2 h⟩⟩, ?_⟩⟩
  · have := h2 h; omega
  · rcases h3 with ⟨rfl, -⟩ | ⟨r, t, cur, rfl, rfl, h5⟩
    · exact .inl rfl
    · refine .inr ⟨r, 0, rfl, .inr ⟨t, cur, by simp, fun j u hj => ?_⟩⟩
      have hlt := (List.getElem?_eq_some_iff.1 hj).1
      rw [bcs_len] at hlt
      rw [bcs_get l j hlt] at hj
      rw [Nat.zero_add, h5 j hlt, hj]

set_option maxRecDepth 100000 in
set_option maxHeartbeats 1000000 in
theorem sclone_any (v : Value) (l : List UInt8) (hl : l.length ≤ 1000000) (w : World) (hv : BSl w v l) :
    Calls Try.prog 98 #[v] w fun e w' => ∃ u, e = .returned u ∧ Below w.heap.size w w' ∧ Clo 5 w.heap.size l u w' := by
  obtain ⟨ao, cap, rfl, -⟩ := hv.open_
  have e0 := Go.run_eql_slice_nil (P := Try.prog) w 26 5 ao l.length cap Try.underlying26
  cases ao with
  | none =>
    obtain ⟨h1, h2⟩ := hv.cells.2.1 rfl
    obtain rfl : l = [] := List.eq_nil_of_length_eq_zero h1
    subst h2
    simp only [List.length_nil] at e0
    go_enter Try.func98, Try.ntmps98
    go_wp2
    go_ret
    exact ⟨_, rfl, Below.refl _ _, none, 0, [], rfl, .void, by simp⟩
  | some ad =>
    have HV := Lib.hid (hv.alloc (.cells #[] 5))
    have HM := Lib.hid (show Mem (w.alloc (.cells #[] 5)) w ([⟨w.heap.size, 5, #[]⟩] ++ []) from (Mem.start w).key #[] 5 w.heap.size rfl)
    have HN := Lib.hid (show New w [⟨w.heap.size, 5, #[]⟩] from New.cons (Nat.le_refl _) (New.nil _))
    have HR := Lib.hid (Row.empty 5 1 w.heap.size)
    clear hv
    go_enter Try.func98, Try.ntmps98
    go_wp2_with (at_builtin; refine wpList_append_row rfl (.tmp 5) (.tmp 6) 26 rfl elt_byte HM.out HN.out _ _ _ (by rfl) HR.out _ _ _ (bcs l) (by rfl) (by rw [bcs_len]; simp) (by simp) HV.out.cells.2.2 (bcs_one l) (by unfold maxLen; omega) (by omega) l.length (by simp) (bcs l) (by simp) (fun ao' cap' B' w' R' M' hB' => ?_); (have HR1 := Lib.hid R'); (have HM1 := Lib.hid M'); (have HB1 := Lib.hid hB'); clear R' M' hB')
    go_ret
    exact ⟨_, rfl, HM1.out.below (by rw [List.append_nil]; exact HB1.out), ao', cap', B', rfl, HR1.out, fun x hx => ⟨HB1.out x hx, HM1.out.has x (by simpa using hx)⟩⟩

def thintF (x : BitVec 64) : BitVec 64 := wordF x (strL { data := #[104, 105, 110, 116] })
def tkeyF (x : BitVec 64) : BitVec 64 := wordF x (strL { data := #[98, 111, 120] })
noncomputable def tboxF (x : BitVec 64) (l : List UInt8) : List UInt8 := sealF (tkeyF x) l
set_option maxRecDepth 100000 in
set_option maxHeartbeats 1000000 in
theorem hint_to (x h : BitVec 64) (hh : thintF x = h) (w : World) :
    Calls Try.prog 18 #[.agg #[.int .u8 (by8 x 0), .int .u8 (by8 x 1), .int .u8 (by8 x 2), .int .u8 (by8 x 3), .int .u8 (by8 x 4), .int .u8 (by8 x 5), .int .u8 (by8 x 6), .int .u8 (by8 x 7)]] w fun e w' => e = .returned (.agg #[.int .u8 (by8 h 0), .int .u8 (by8 h 1), .int .u8 (by8 h 2), .int .u8 (by8 h 3), .int .u8 (by8 h 4), .int .u8 (by8 h 5), .int .u8 (by8 h 6), .int .u8 (by8 h 7)]) ∧ Below w.heap.size w w' := by
  have H := Lib.hid (fun W => word_bytes x { data := #[104, 105, 110, 116] } W (by decide) h hh)
  go_enter Try.func18, Try.ntmps18
  go_wp2_with fail
  refine (H.out _).mono ?_
  rintro e w1 ⟨rfl, hb1⟩; obtain ⟨g1, d1, rfl⟩ := plus_of_below hb1; clear hb1
  go_wp2
  refine bodyPost_ret (v := .agg #[.int .u8 (by8 h 0), .int .u8 (by8 h 1), .int .u8 (by8 h 2), .int .u8 (by8 h 3), .int .u8 (by8 h 4), .int .u8 (by8 h 5), .int .u8 (by8 h 6), .int .u8 (by8 h 7)]) (by simp [results, Try.results18, go_sem]) rfl ⟨rfl, by (repeat' (first | (with_reducible exact Below.refl _ _) | (with_reducible refine bplus ?_ _ _) | (with_reducible refine balloc ?_ _) | (with_reducible refine Below.drew ?_) | (with_reducible refine bdrewN ?_ _) | (with_reducible refine Below.setCell ?_ (by go_size) _)))⟩
set_option maxRecDepth 100000 in
set_option maxHeartbeats 1000000 in
theorem tkey_to (x h : BitVec 64) (hh : tkeyF x = h) (w : World) :
    Calls Try.prog 58 #[.agg #[.int .u8 (by8 x 0), .int .u8 (by8 x 1), .int .u8 (by8 x 2), .int .u8 (by8 x 3), .int .u8 (by8 x 4), .int .u8 (by8 x 5), .int .u8 (by8 x 6), .int .u8 (by8 x 7)]] w fun e w' => e = .returned (.agg #[.int .u8 (by8 h 0), .int .u8 (by8 h 1), .int .u8 (by8 h 2), .int .u8 (by8 h 3), .int .u8 (by8 h 4), .int .u8 (by8 h 5), .int .u8 (by8 h 6), .int .u8 (by8 h 7)]) ∧ Below w.heap.size w w' := by
  have H := Lib.hid (fun W => word_bytes x { data := #[98, 111, 120] } W (by decide) h hh)
  go_enter Try.func58, Try.ntmps58
  go_wp2_with fail
  refine (H.out _).mono ?_
  rintro e w1 ⟨rfl, hb1⟩; obtain ⟨g1, d1, rfl⟩ := plus_of_below hb1; clear hb1
  go_wp2
  refine bodyPost_ret (v := .agg #[.int .u8 (by8 h 0), .int .u8 (by8 h 1), .int .u8 (by8 h 2), .int .u8 (by8 h 3), .int .u8 (by8 h 4), .int .u8 (by8 h 5), .int .u8 (by8 h 6), .int .u8 (by8 h 7)]) (by simp [results, Try.results58, go_sem]) rfl ⟨rfl, by (repeat' (first | (with_reducible exact Below.refl _ _) | (with_reducible refine bplus ?_ _ _) | (with_reducible refine balloc ?_ _) | (with_reducible refine Below.drew ?_) | (with_reducible refine bdrewN ?_ _) | (with_reducible refine Below.setCell ?_ (by go_size) _)))⟩

def isNum (n : Int) : Bool := decide (0 ≤ n) && decide (n ≤ 1099511627776)
theorem isNum_bd {n : Int} (h : isNum n = true) : 0 ≤ n ∧ n ≤ 1099511627776 := by simpa [isNum] using h
set_option maxRecDepth 100000 in
theorem tisNumber_to (n : Int) (b : Bool) (hb : isNum n = b) (w : World) : Calls Try.prog 56 #[.int .i64 n] w fun e w' => e = .returned (.bool b) ∧ w' = w := by
  unfold isNum at hb
  cases h1 : decide (0 ≤ n) with
  | false =>
    rw [h1, Bool.false_and] at hb
    subst hb
    go_enter Try.func56, Try.ntmps56
    go_wp2
    go_ret
    exact ⟨rfl, rfl⟩
  | true =>
    rw [h1, Bool.true_and] at hb
    go_enter Try.func56, Try.ntmps56
    go_wp2
    go_ret
    exact ⟨rfl, rfl⟩

set_option maxRecDepth 100000 in
set_option maxHeartbeats 2000000 in
theorem make_range (x : BitVec 64) (n : Int) (v : Value) (hn : isNum n = false) (w : World) :
    Calls Try.prog 16 #[.agg #[.int .u8 (by8 x 0), .int .u8 (by8 x 1), .int .u8 (by8 x 2), .int .u8 (by8 x 3), .int .u8 (by8 x 4), .int .u8 (by8 x 5), .int .u8 (by8 x 6), .int .u8 (by8 x 7)], .int .i64 n, v] w fun e w' => e = .returned (.tuple #[.agg #[.int .u8 0, .int .u8 0, .int .u8 0, .int .u8 0, .int .u8 0, .int .u8 0, .int .u8 0, .int .u8 0, .int .i64 0, .slice none 0 0], .int .i64 2]) ∧ Below w.heap.size w w' := by
  go_enter Try.func16, Try.ntmps16
  go_wp2_with fail
  refine (tisNumber_to n false hn _).mono ?_
  rintro e w' ⟨rfl, rfl⟩
  go_wp2
  refine bodyPost_ret (v := .tuple #[.agg #[.int .u8 0, .int .u8 0, .int .u8 0, .int .u8 0, .int .u8 0, .int .u8 0, .int .u8 0, .int .u8 0, .int .i64 0, .slice none 0 0], .int .i64 2]) (by simp [results, Try.results16, go_sem]) rfl ⟨rfl, by (repeat' (first | (with_reducible exact Below.refl _ _) | (with_reducible refine bplus ?_ _ _) | (with_reducible refine balloc ?_ _) | (with_reducible refine Below.drew ?_) | (with_reducible refine bdrewN ?_ _) | (with_reducible refine Below.setCell ?_ (by go_size) _)))⟩
set_option maxRecDepth 100000 in
set_option maxHeartbeats 2000000 in
theorem make_long (x : BitVec 64) (n : Int) (ao : Option Addr) (m c : Nat) (hm : 32768 < m) (hn : isNum n = true) (w : World) :
    Calls Try.prog 16 #[.agg #[.int .u8 (by8 x 0), .int .u8 (by8 x 1), .int .u8 (by8 x 2), .int .u8 (by8 x 3), .int .u8 (by8 x 4), .int .u8 (by8 x 5), .int .u8 (by8 x 6), .int .u8 (by8 x 7)], .int .i64 n, .slice ao m c] w fun e w' => e = .returned (.tuple #[.agg #[.int .u8 0, .int .u8 0, .int .u8 0, .int .u8 0, .int .u8 0, .int .u8 0, .int .u8 0, .int .u8 0, .int .i64 0, .slice none 0 0], .int .i64 5]) ∧ Below w.heap.size w w' := by
  have hd : decide ((32768 : Int) < (m : Int)) = true := decide_eq_true (by omega)
  go_enter Try.func16, Try.ntmps16
  go_wp2_with fail
  refine (tisNumber_to n true hn _).mono ?_
  rintro e w' ⟨rfl, rfl⟩
  go_wp2
  refine bodyPost_ret (v := .tuple #[.agg #[.int .u8 0, .int .u8 0, .int .u8 0, .int .u8 0, .int .u8 0, .int .u8 0, .int .u8 0, .int .u8 0, .int .i64 0, .slice none 0 0], .int .i64 5]) (by simp [results, Try.results16, go_sem]) rfl ⟨rfl, by (repeat' (first | (with_reducible exact Below.refl _ _) | (with_reducible refine bplus ?_ _ _) | (with_reducible refine balloc ?_ _) | (with_reducible refine Below.drew ?_) | (with_reducible refine bdrewN ?_ _) | (with_reducible refine Below.setCell ?_ (by go_size) _)))⟩
set_option maxRecDepth 100000 in
set_option maxHeartbeats 4000000 in
theorem make_to (x : BitVec 64) (n : Int) (v : Value) (l : List UInt8) (hn : isNum n = true) (hl : l.length ≤ 32768) (h : BitVec 64) (hh : thintF x = h) (y : List UInt8) (hy : tboxF x l = y) (w : World) (hv : BSl w v l) :
    Calls Try.prog 16 #[.agg #[.int .u8 (by8 x 0), .int .u8 (by8 x 1), .int .u8 (by8 x 2), .int .u8 (by8 x 3), .int .u8 (by8 x 4), .int .u8 (by8 x 5), .int .u8 (by8 x 6), .int .u8 (by8 x 7)], .int .i64 n, v] w fun e w' => ∃ u, e = .returned (.tuple #[.agg #[.int .u8 (by8 h 0), .int .u8 (by8 h 1), .int .u8 (by8 h 2), .int .u8 (by8 h 3), .int .u8 (by8 h 4), .int .u8 (by8 h 5), .int .u8 (by8 h 6), .int .u8 (by8 h 7), .int .i64 n, u], .int .i64 0]) ∧ Below w.heap.size w w' ∧ Ans w.heap.size y u w' := by
  obtain ⟨k, HK⟩ : ∃ k, Hid (tkeyF x = k) := ⟨_, rfl⟩
  have HH := Lib.hid hh
  have HY : Hid (sealF k l = y) := by show _ = _; rw [← HK.out]; exact hy
  obtain ⟨ao, cap, rfl, -⟩ := hv.open_
  have HV := Lib.hid hv
  have HN := Lib.hid hn
  have hd : decide ((32768 : Int) < (l.length : Int)) = false := decide_eq_false (by omega)
  have HO := Lib.hid (((Ow.start w).key #[.int .u8 (by8 x 0), .int .u8 (by8 x 1), .int .u8 (by8 x 2), .int .u8 (by8 x 3), .int .u8 (by8 x 4), .int .u8 (by8 x 5), .int .u8 (by8 x 6), .int .u8 (by8 x 7)] 27 w.heap.size rfl).key #[.int .u8 0, .int .u8 0, .int .u8 0, .int .u8 0, .int .u8 0, .int .u8 0, .int .u8 0, .int .u8 0, .int .i64 0, .slice none 0 0] 29 (w.heap.size + 1) (by simp))
  clear hv hh hy hn
  go_enter Try.func16, Try.ntmps16
  go_wp2_with fail
  refine (tisNumber_to n true HN.out _).mono ?_
  rintro e w' ⟨rfl, rfl⟩
  go_wp2_with fail
  refine wp_opq (fun W => Ow W w [⟨w.heap.size + 1, 29, #[.int .u8 0, .int .u8 0, .int .u8 0, .int .u8 0, .int .u8 0, .int .u8 0, .int .u8 0, .int .u8 0, .int .i64 0, .slice none 0 0]⟩, ⟨w.heap.size, 27, #[.int .u8 (by8 x 0), .int .u8 (by8 x 1), .int .u8 (by8 x 2), .int .u8 (by8 x 3), .int .u8 (by8 x 4), .int .u8 (by8 x 5), .int .u8 (by8 x 6), .int .u8 (by8 x 7)]⟩]) HO.out ?_
  intro W2 O2
  have HB := O2.has (b := w.heap.size) (t := 27) (cs := #[.int .u8 (by8 x 0), .int .u8 (by8 x 1), .int .u8 (by8 x 2), .int .u8 (by8 x 3), .int .u8 (by8 x 4), .int .u8 (by8 x 5), .int .u8 (by8 x 6), .int .u8 (by8 x 7)]) (by simp)
  have hc := HB.cell
  have lt := HB.lt
  have HV2 := Lib.hid (HV.out.below O2.below)
  have HO2 := Lib.hid O2
  have T3 : Hid (∀ g d, Calls Try.prog 57 #[.agg #[.int .u8 (by8 k 0), .int .u8 (by8 k 1), .int .u8 (by8 k 2), .int .u8 (by8 k 3), .int .u8 (by8 k 4), .int .u8 (by8 k 5), .int .u8 (by8 k 6), .int .u8 (by8 k 7)], .slice ao l.length cap] (plus W2 g d) fun e w' => ∃ u, e = .returned u ∧ Below (plus W2 g d).heap.size (plus W2 g d) w' ∧ Ans W2.heap.size y u w') := fun g d => by
    refine (seal_to k _ l (by omega) y HY.out _ (HV2.out.plus g d)).mono ?_
    rintro e w' ⟨u, h1, h2, h3⟩
    exact ⟨u, h1, h2, h3.base (by simp)⟩
  clear HB O2 HO
  refine wp_region_rc 7 3 (by kernel_rfl) (by kernel_rfl) (by kernel_rfl) (by kernel_rfl) ?_
  simp only [List.take_succ_cons, List.take_zero]
  repeat (first
    | (refine B_skip ?_ ?_; (· rfl); (try simp only [Act.put, List.setIfInBounds_toArray, List.set_cons_zero, List.set_cons_succ]))
    | (refine B_move rfl ?_ ?_; (· rfl); (try simp only [Act.eval, Act.put, Array.getD_eq_getD_getElem?, List.getElem?_toArray, List.getElem?_cons_succ, List.getElem?_cons_zero, Option.getD_some, List.setIfInBounds_toArray, List.set_cons_zero, List.set_cons_succ]))
    | (refine B_plain ?_ ?_; (· rfl); intro K hK; go_big_quiet_op; with_reducible refine hK _ ?_; clear hK K)
    | (refine B_callX (v := ?_) (f := 18) rfl (by kernel_rfl) ?_ (fun xq => ?_) ?_; rotate_left; (· rfl); (· ((simp only [List.map_toArray, List.map_cons, List.map_nil, Act.eval, Array.getD_eq_getD_getElem?, List.getElem?_toArray, List.getElem?_cons_succ, List.getElem?_cons_zero, Option.getD_some]); with_reducible apply retB; with_reducible exact (hint_to x h HH.out _))); (try simp only [Act.put, List.setIfInBounds_toArray, List.set_cons_zero, List.set_cons_succ]))
    | (refine B_callX (v := ?_) (f := 58) rfl (by kernel_rfl) ?_ (fun xq => ?_) ?_; rotate_left; (· rfl); (· ((simp only [List.map_toArray, List.map_cons, List.map_nil, Act.eval, Array.getD_eq_getD_getElem?, List.getElem?_toArray, List.getElem?_cons_succ, List.getElem?_cons_zero, Option.getD_some]); with_reducible apply retB; with_reducible exact (tkey_to x k HK.out _))); (try simp only [Act.put, List.setIfInBounds_toArray, List.set_cons_zero, List.set_cons_succ]))
    | (refine B_callR (Ans W2.heap.size y) (stays_ans _ _) (f := 57) rfl rfl (by kernel_rfl) ?_ (fun xq => ?_) ?_; (· rfl); (· ((simp only [List.map_toArray, List.map_cons, List.map_nil, Act.eval, Array.getD_eq_getD_getElem?, List.getElem?_toArray, List.getElem?_cons_succ, List.getElem?_cons_zero, Option.getD_some]); (with_reducible apply retR); with_reducible exact T3.out _ _))))
  refine B_nil ?_ rfl ?_ ?_
  · kernel_rfl
  · rfl
  rintro _ ⟨⟨g5, d5⟩, rfl⟩
  simp only [fin, Act.put, List.setIfInBounds_toArray, List.set_cons_zero, List.set_cons_succ]
  intro u hu
  obtain ⟨au, cu, NB, rfl, hcap, hB, hS⟩ := hu
  have O3 := HO2.out.found ⟨⟨_, _⟩, rfl⟩ hB.apart hS
  have HCap := Lib.hid hcap
  have HBy := Lib.hid hB
  have HSb : Hid (∀ z ∈ NB, w.heap.size ≤ z.no) := fun z hz => Nat.le_trans HO2.out.below.size (hS z hz).1
  have HO3 := Lib.hid (show Ow _ w (NB ++ ⟨w.heap.size + 1, 29, #[.int .u8 0, .int .u8 0, .int .u8 0, .int .u8 0, .int .u8 0, .int .u8 0, .int .u8 0, .int .u8 0, .int .i64 0, .slice none 0 0]⟩ :: [⟨w.heap.size, 27, #[.int .u8 (by8 x 0), .int .u8 (by8 x 1), .int .u8 (by8 x 2), .int .u8 (by8 x 3), .int .u8 (by8 x 4), .int .u8 (by8 x 5), .int .u8 (by8 x 6), .int .u8 (by8 x 7)]⟩]) from O3)
  clear O3 hcap hB hS hc lt
  refine step_one (n := 2) (k := 7) (by kernel_rfl) (by rfl) (by rfl) ?_
  intro K hK
  go_simp
  refine hK _ _ ?_
  clear hK K
  refine step_one (n := 1) (k := 8) (by kernel_rfl) (by rfl) (by rfl) ?_
  intro K hK
  refine wp_store_blk 29 (.tmp 6) (.tmp 23) (by rfl) HO3.out.mem (by rfl) #[.int .u8 (by8 h 0), .int .u8 (by8 h 1), .int .u8 (by8 h 2), .int .u8 (by8 h 3), .int .u8 (by8 h 4), .int .u8 (by8 h 5), .int .u8 (by8 h 6), .int .u8 (by8 h 7), .int .i64 n, .slice au y.length cu] (by rfl) (by kernel_rfl) (by rfl) (by simp [Value.oneCell']) (fun w' M' => hK _ _ ?_)
  clear hK K
  have hBel : Below w.heap.size w w' := M'.below (fun z hz => by
    rcases List.mem_append.1 hz with hz | hz
    · exact HO3.out.new z (by simp [hz])
    · rcases List.mem_cons.1 hz with rfl | hz
      · show w.heap.size ≤ w.heap.size + 1; omega
      · exact HO3.out.new z (by simp [hz]))
  have HB4 := M'.has ⟨w.heap.size + 1, 29, #[.int .u8 (by8 h 0), .int .u8 (by8 h 1), .int .u8 (by8 h 2), .int .u8 (by8 h 3), .int .u8 (by8 h 4), .int .u8 (by8 h 5), .int .u8 (by8 h 6), .int .u8 (by8 h 7), .int .i64 n, .slice au y.length cu]⟩ (by simp)
  have HC : HasBlk w' (w.heap.size + 1) 29 #[.int .u8 (by8 h 0), .int .u8 (by8 h 1), .int .u8 (by8 h 2), .int .u8 (by8 h 3), .int .u8 (by8 h 4), .int .u8 (by8 h 5), .int .u8 (by8 h 6), .int .u8 (by8 h 7), .int .i64 n, .slice au y.length cu] := HB4
  have HAns : Hid (Ans w.heap.size y (.slice au y.length cu) w') := ⟨au, cu, NB, rfl, HCap.out, HBy.out, fun z hz => ⟨HSb.out z hz, M'.has z (by simp [hz])⟩⟩
  have hcc := HC.cell
  have HBel := Lib.hid hBel
  clear M' HB4 HC hBel
  refine last_one (k := 9) (by kernel_rfl) (by kernel_rfl) (by rfl) ?_ ?_
  · rfl
  intro K hK
  go_simp
  refine hK _ _ ?_
  clear hK K
  go_wp2
  refine bodyPost_ret (v := .tuple #[.agg #[.int .u8 (by8 h 0), .int .u8 (by8 h 1), .int .u8 (by8 h 2), .int .u8 (by8 h 3), .int .u8 (by8 h 4), .int .u8 (by8 h 5), .int .u8 (by8 h 6), .int .u8 (by8 h 7), .int .i64 n, .slice au y.length cu], .int .i64 0]) (by simp [results, Try.results16, go_sem, hcc]) rfl ?_
  exact ⟨_, rfl, HBel.out, HAns.out⟩

end Go.Proofs.Ytghaiplhakeahaa
