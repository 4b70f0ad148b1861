/- baizeref51: contracts of Take and Drop. -/
import Derived.Test.YtghaiplhakeahaaYs
import Derived.Test.YtghaiplhakeahaaInv
import Derived.Test.YtghaiplhakeahaaYt
namespace Go.Proofs.Ytghaiplhakeahaa
set_option linter.unusedSimpArgs false
set_option linter.unusedVariables false
open Go.RowKit Go.WideMaps Go.ChangeMaps Go.Maps

/-- An appointment of the document. -/
noncomputable abbrev rApp (dh : BitVec 64) (n : Int) (s : ByteArray) : Value := .agg #[.int .u8 (by8 dh 0), .int .u8 (by8 dh 1), .int .u8 (by8 dh 2), .int .u8 (by8 dh 3), .int .u8 (by8 dh 4), .int .u8 (by8 dh 5), .int .u8 (by8 dh 6), .int .u8 (by8 dh 7), .int .i64 n, .string s]
theorem Ow.om {w w0 : World} {X : List Blk} (h : Ow w w0 X) : Omw w w0 X [] := ⟨h, by simp, by simp, by simp, .nil⟩
/-- A row that a region makes, beside blocks; ahead of the first new block the heap's size is known. -/
structure Stg (w : World) (e : TypeId) (C : List Blk) (k : Nat) (pre : Bool) (V : Value) (n : Nat) (xs : List Value) (W : World) : Prop where
  pre : pre = true → W.heap.size = k
  row : ∃ B, Row e 10 V n xs B ∧ Ow W w (B ++ C)
theorem Stg.has {w : World} {e : TypeId} {C : List Blk} {k : Nat} {pre : Bool} {V : Value} {n : Nat} {xs : List Value} {W : World} (h : Stg w e C k pre V n xs W) {b : Nat} {t : TypeId} {cs : Array Value} (hx : (⟨b, t, cs⟩ : Blk) ∈ C) : HasBlk W b t cs := by
  obtain ⟨B, -, O⟩ := h.row
  exact O.has (List.mem_append_right _ hx)
theorem memC {x : Blk} {l : Bool} {n : Blk} {C : List Blk} (h : x ∈ C) : x ∈ (bif l then n :: C else C) := by cases l <;> simp [h]
theorem rall_set (al : List AP) (i : Nat) (hi : i < al.length) (a : AP) (cur : Array Value) (hc : cur.toList.take (al.length * 10) = rall al) : (writeAt cur (i * 10) (rcs a)).toList.take (al.length * 10) = rall (al.set i a) := by
  have hl := rall_len al
  have hl2 : (rall (al.set i a)).length = al.length * 10 := by rw [rall_len]; simp
  have hcs : al.length * 10 ≤ cur.size := by
    have := congrArg List.length hc
    rw [List.length_take, hl, Array.length_toList (xs := cur)] at this
    omega
  apply List.ext_getElem?
  intro k
  rw [List.getElem?_take]
  by_cases hk : k < al.length * 10
  · rw [if_pos hk, Array.getElem?_toList, writeAt_get]
    have hkd : k = (k / 10) * 10 + k % 10 := by omega
    have hk1 : k / 10 < al.length := by omega
    have hk2 : k % 10 < 10 := by omega
    have old : cur[k]? = (rcs (al.getD (k / 10) default))[k % 10]? := by
      rw [← rall_get al _ _ hk1 hk2, ← hkd, ← hc, List.getElem?_take, if_pos hk, Array.getElem?_toList]
    have new := rall_get (al.set i a) (k / 10) (k % 10) (by simpa using hk1) hk2
    rw [← hkd] at new
    have h10 : (rcs a).length = 10 := rfl
    rw [new, h10]
    by_cases he : k / 10 = i
    · rw [if_pos (by omega), show k - i * 10 = k % 10 by omega, he]
      congr 1
      simp [List.getD_eq_getElem?_getD, List.getElem?_set, hi]
    · rw [if_neg (by omega), old]
      congr 1
      simp only [List.getD_eq_getElem?_getD, List.getElem?_set, if_neg (fun e : i = k / 10 => he e.symm)]
  · rw [if_neg hk, List.getElem?_eq_none (by omega)]

/-! ### Take -/
set_option maxRecDepth 100000 in
set_option maxHeartbeats 2000000 in
theorem rtake_range (room : Int) (ao : Option Addr) (m c : Nat) (dh : BitVec 64) (n : Int) (s : ByteArray) (hn : isNum n = false) (w : World) :
    Calls Try.prog 53 #[.agg #[.int .i64 room, .slice ao m c], rApp dh n s] w fun e w' => e = .returned (.tuple #[.agg #[.int .i64 room, .slice ao m c], .int .i64 2]) ∧ Below w.heap.size w w' := by
  rcases isNum_cases n hn with h1 | ⟨h1, h2⟩
  ·
    go_enter Try.func53, Try.ntmps53
    go_wp2
    refine bodyPost_ret (v := .tuple #[.agg #[.int .i64 room, .slice ao m c], .int .i64 2]) (by simp [results, Try.results53, go_sem]) rfl ⟨rfl, by (repeat' (first | (with_reducible exact Below.refl _ _) | (with_reducible refine bplus ?_ _ _) | (with_reducible refine balloc ?_ _) | (with_reducible refine Below.drew ?_) | (with_reducible refine bdrewN ?_ _) | (with_reducible refine Below.setCell ?_ (by go_size) _)))⟩
  ·
    go_enter Try.func53, Try.ntmps53
    go_wp2
    refine bodyPost_ret (v := .tuple #[.agg #[.int .i64 room, .slice ao m c], .int .i64 2]) (by simp [results, Try.results53, go_sem]) rfl ⟨rfl, by (repeat' (first | (with_reducible exact Below.refl _ _) | (with_reducible refine bplus ?_ _ _) | (with_reducible refine balloc ?_ _) | (with_reducible refine Below.drew ?_) | (with_reducible refine bdrewN ?_ _) | (with_reducible refine Below.setCell ?_ (by go_size) _)))⟩
set_option maxRecDepth 100000 in
set_option maxHeartbeats 2000000 in
theorem rtake_form (room : Int) (ao : Option Addr) (m c : Nat) (dh : BitVec 64) (n : Int) (s : ByteArray) (hn : isNum n = true) (hs : s.size < 8) (w : World) :
    Calls Try.prog 53 #[.agg #[.int .i64 room, .slice ao m c], rApp dh n s] w fun e w' => e = .returned (.tuple #[.agg #[.int .i64 room, .slice ao m c], .int .i64 3]) ∧ Below w.heap.size w w' := by
  have hb := isNum_bd hn
  have h1 : decide (n < 0) = false := decide_eq_false (by omega)
  have h2 : decide (1099511627776 < n) = false := decide_eq_false (by omega)
  have hd : decide ((s.size : Int) < 8) = true := decide_eq_true (by omega)
  go_enter Try.func53, Try.ntmps53
  go_wp2
  refine bodyPost_ret (v := .tuple #[.agg #[.int .i64 room, .slice ao m c], .int .i64 3]) (by simp [results, Try.results53, go_sem]) rfl ⟨rfl, by (repeat' (first | (with_reducible exact Below.refl _ _) | (with_reducible refine bplus ?_ _ _) | (with_reducible refine balloc ?_ _) | (with_reducible refine Below.drew ?_) | (with_reducible refine bdrewN ?_ _) | (with_reducible refine Below.setCell ?_ (by go_size) _)))⟩
set_option maxRecDepth 100000 in
set_option maxHeartbeats 2000000 in
theorem rtake_long (room : Int) (ao : Option Addr) (m c : Nat) (dh : BitVec 64) (n : Int) (s : ByteArray) (hn : isNum n = true) (hs : 32776 < s.size) (w : World) :
    Calls Try.prog 53 #[.agg #[.int .i64 room, .slice ao m c], rApp dh n s] w fun e w' => e = .returned (.tuple #[.agg #[.int .i64 room, .slice ao m c], .int .i64 5]) ∧ Below w.heap.size w w' := by
  have hb := isNum_bd hn
  have h1 : decide (n < 0) = false := decide_eq_false (by omega)
  have h2 : decide (1099511627776 < n) = false := decide_eq_false (by omega)
  have hd : decide ((s.size : Int) < 8) = false := decide_eq_false (by omega)
  have hd2 : decide ((32776 : Int) < (s.size : Int)) = true := decide_eq_true (by omega)
  go_enter Try.func53, Try.ntmps53
  go_wp2
  refine bodyPost_ret (v := .tuple #[.agg #[.int .i64 room, .slice ao m c], .int .i64 5]) (by simp [results, Try.results53, go_sem]) rfl ⟨rfl, by (repeat' (first | (with_reducible exact Below.refl _ _) | (with_reducible refine bplus ?_ _ _) | (with_reducible refine balloc ?_ _) | (with_reducible refine Below.drew ?_) | (with_reducible refine bdrewN ?_ _) | (with_reducible refine Below.setCell ?_ (by go_size) _)))⟩
set_option maxRecDepth 100000 in
set_option maxHeartbeats 4000000 in
theorem rtake_full (room : Nat) (v : Value) (al : List AP) (hal : al.length ≤ 1000000) (dh : BitVec 64) (n : Int) (s : ByteArray) (hn : isNum n = true) (h8 : 8 ≤ s.size) (hs : s.size ≤ 32776) (w : World) (hv : RSl w v al) (r : Int) (hat : atF al dh = r) (hr : r = -1) (hroom : al.length = room) :
    Calls Try.prog 53 #[.agg #[.int .i64 room, v], rApp dh n s] w fun e w' => e = .returned (.tuple #[.agg #[.int .i64 room, v], .int .i64 8]) ∧ Below w.heap.size w w' := by
  subst hr
  have hdr : ((al.length : Int) == (room : Int)) = true := by rw [beq_iff_eq]; omega
  clear hroom
  obtain ⟨ao, cap, rfl, hcap, hnil⟩ := hv.slice
  have hb := isNum_bd hn
  have h1 : decide (n < 0) = false := decide_eq_false (by omega)
  have h2 : decide (1099511627776 < n) = false := decide_eq_false (by omega)
  have hd : decide ((s.size : Int) < 8) = false := decide_eq_false (by omega)
  have hd2 : decide ((32776 : Int) < (s.size : Int)) = false := decide_eq_false (by omega)
  have HV := Lib.hid hv
  have HVC := Lib.hid ((((hv.alloc (.cells #[.int .i64 room, .slice ao al.length cap] 72)).alloc (.cells #[.int .u8 (by8 dh 0), .int .u8 (by8 dh 1), .int .u8 (by8 dh 2), .int .u8 (by8 dh 3), .int .u8 (by8 dh 4), .int .u8 (by8 dh 5), .int .u8 (by8 dh 6), .int .u8 (by8 dh 7), .int .i64 n, .string s] 34)).alloc (.cells #[.int .i64 0, .slice none 0 0] 72)).alloc (.cells #[] 34)).cells
  have HNIL := Lib.hid hnil
  have HO := Lib.hid ((((((Ow.start w).key #[.int .i64 room, .slice ao al.length cap] 72 w.heap.size rfl).key #[.int .u8 (by8 dh 0), .int .u8 (by8 dh 1), .int .u8 (by8 dh 2), .int .u8 (by8 dh 3), .int .u8 (by8 dh 4), .int .u8 (by8 dh 5), .int .u8 (by8 dh 6), .int .u8 (by8 dh 7), .int .i64 n, .string s] 34 (w.heap.size + 1) (by simp)).key #[.int .i64 0, .slice none 0 0] 72 (w.heap.size + 1 + 1) (by simp)).key #[] 34 (w.heap.size + 1 + 1 + 1) (by simp)).perm (L' := [⟨w.heap.size + 1 + 1 + 1, 34, #[]⟩] ++ [⟨w.heap.size + 1 + 1, 72, #[.int .i64 0, .slice none 0 0]⟩, ⟨w.heap.size + 1, 34, #[.int .u8 (by8 dh 0), .int .u8 (by8 dh 1), .int .u8 (by8 dh 2), .int .u8 (by8 dh 3), .int .u8 (by8 dh 4), .int .u8 (by8 dh 5), .int .u8 (by8 dh 6), .int .u8 (by8 dh 7), .int .i64 n, .string s]⟩, ⟨w.heap.size, 72, #[.int .i64 room, .slice ao al.length cap]⟩]) (perm_cnt fun x => by simp only [cnt_append, cnt_cons, cnt_nil] <;> omega))
  have HAT := Lib.hid hat
  clear hv hnil hb hat
  go_enter Try.func53, Try.ntmps53
  go_wp2_with (at_builtin; go_loud (refine HO.out.appendRow rfl (.tmp 27) (.tmp 29) 70 rfl elt_rap (by rfl) (Row.empty _ _ _) ao al.length cap (rall al) (by rfl) (rall_len al) HNIL.out HVC.out (rall_mem al) (by unfold maxLen; omega) (by omega) al.length (by simp) (rall al) (by simp) (fun a7 c7 B7 w7 R7 O7 => ?_)); (have HR7 := Lib.hid R7); (have HO7 := Lib.hid O7); clear R7 O7; (obtain ⟨b2, hb2⟩ : ∃ b, b = w.heap.size := ⟨_, rfl⟩); (obtain ⟨b3, hb3⟩ : ∃ b, b = w.heap.size + 1 := ⟨_, rfl⟩); (obtain ⟨b4, hb4⟩ : ∃ b, b = w.heap.size + 1 + 1 := ⟨_, rfl⟩); (simp only [← hb4] at HO7 ⊢); (simp only [← hb3] at HO7 ⊢); (simp only [← hb2] at HO7 ⊢); clear hb2 hb3 hb4 HO HVC; (have hq2 := HO7.out.has (b := b2) (t := 72) (cs := #[.int .i64 room, .slice ao al.length cap]) (by simp)); (have t0 := hq2.cell 0); (have t1 := hq2.cell 1); (have lt2 := hq2.lt); (have hq3 := HO7.out.has (b := b3) (t := 34) (cs := #[.int .u8 (by8 dh 0), .int .u8 (by8 dh 1), .int .u8 (by8 dh 2), .int .u8 (by8 dh 3), .int .u8 (by8 dh 4), .int .u8 (by8 dh 5), .int .u8 (by8 dh 6), .int .u8 (by8 dh 7), .int .i64 n, .string s]) (by simp)); (have y0 := hq3.cell 0); (have y1 := hq3.cell 1); (have y2 := hq3.cell 2); (have y3 := hq3.cell 3); (have y4 := hq3.cell 4); (have y5 := hq3.cell 5); (have y6 := hq3.cell 6); (have y7 := hq3.cell 7); (have y8 := hq3.cell 8); (have y9 := hq3.cell 9); (have lt3 := hq3.lt); (simp only [List.getElem?_toArray, List.getElem?_cons_succ, List.getElem?_cons_zero] at t0 t1 y0 y1 y2 y3 y4 y5 y6 y7 y8 y9); clear hq2 hq3)
  go_wp2_with fail
  refine (rat_to room _ al (by omega) dh _ (HV.out.below HO7.out.below) _ HAT.out).mono ?_
  rintro e w8 ⟨rfl, hb8⟩
  have HO8 := Lib.hid (HO7.out.of_below hb8)
  clear hb8 HO7 t0 t1 lt2 y0 y1 y2 y3 y4 y5 y6 y7 y8 y9 lt3
  (have hq2 := HO8.out.has (b := b2) (t := 72) (cs := #[.int .i64 room, .slice ao al.length cap]) (by simp)); (have t0 := hq2.cell 0); (have t1 := hq2.cell 1); (have lt2 := hq2.lt)
  (have hq3 := HO8.out.has (b := b3) (t := 34) (cs := #[.int .u8 (by8 dh 0), .int .u8 (by8 dh 1), .int .u8 (by8 dh 2), .int .u8 (by8 dh 3), .int .u8 (by8 dh 4), .int .u8 (by8 dh 5), .int .u8 (by8 dh 6), .int .u8 (by8 dh 7), .int .i64 n, .string s]) (by simp)); (have y0 := hq3.cell 0); (have y1 := hq3.cell 1); (have y2 := hq3.cell 2); (have y3 := hq3.cell 3); (have y4 := hq3.cell 4); (have y5 := hq3.cell 5); (have y6 := hq3.cell 6); (have y7 := hq3.cell 7); (have y8 := hq3.cell 8); (have y9 := hq3.cell 9); (have lt3 := hq3.lt)
  simp only [List.getElem?_toArray, List.getElem?_cons_succ, List.getElem?_cons_zero] at t0 t1 y0 y1 y2 y3 y4 y5 y6 y7 y8 y9
  clear hq2 hq3
  go_wp2_with (refine (HO8.out.perm (L' := ⟨b4, 72, #[.int .i64 0, .slice none 0 0]⟩ :: (B7 ++ [⟨b3, 34, #[.int .u8 (by8 dh 0), .int .u8 (by8 dh 1), .int .u8 (by8 dh 2), .int .u8 (by8 dh 3), .int .u8 (by8 dh 4), .int .u8 (by8 dh 5), .int .u8 (by8 dh 6), .int .u8 (by8 dh 7), .int .i64 n, .string s]⟩, ⟨b2, 72, #[.int .i64 room, .slice ao al.length cap]⟩])) (perm_cnt fun x => by simp only [cnt_append, cnt_cons, cnt_nil] <;> omega)).storeL rfl 72 (.tmp 4) (.tmp 59) rfl (by rfl) #[.int .i64 room, .slice ao al.length cap] (by rfl) (by kernel_rfl) (by rfl) (by simp [Value.oneCell']) ?_; intro w9 O9)
  (have hq4 := O9.has (b := b4) (t := 72) (cs := #[.int .i64 room, .slice ao al.length cap]) (by simp)); (have z0 := hq4.cell 0); (have z1 := hq4.cell 1)
  simp only [List.getElem?_toArray, List.getElem?_cons_succ, List.getElem?_cons_zero] at z0 z1
  refine bodyPost_ret (v := .tuple #[.agg #[.int .i64 room, .slice ao al.length cap], .int .i64 8]) (by simp [results, Try.results53, go_sem, z0, z1]) rfl ⟨rfl, O9.below⟩
set_option maxRecDepth 100000 in
set_option maxHeartbeats 4000000 in
theorem rtake_old (room : Nat) (v : Value) (al : List AP) (hal : al.length ≤ 1000000) (dh : BitVec 64) (n : Int) (s : ByteArray) (hn : isNum n = true) (h8 : 8 ≤ s.size) (hs : s.size ≤ 32776) (w : World) (hv : RSl w v al) (r : Int) (hat : atF al dh = r) (i : Nat) (hi : i < al.length) (hr : r = (i : Int)) (ho : n ≤ (al.getD i default).n) :
    Calls Try.prog 53 #[.agg #[.int .i64 room, v], rApp dh n s] w fun e w' => e = .returned (.tuple #[.agg #[.int .i64 room, v], .int .i64 18]) ∧ Below w.heap.size w w' := by
  subst hr
  obtain ⟨ao, cap, rfl, hcap, hnil⟩ := hv.slice
  have hb := isNum_bd hn
  have h1 : decide (n < 0) = false := decide_eq_false (by omega)
  have h2 : decide (1099511627776 < n) = false := decide_eq_false (by omega)
  have hd : decide ((s.size : Int) < 8) = false := decide_eq_false (by omega)
  have hd2 : decide ((32776 : Int) < (s.size : Int)) = false := decide_eq_false (by omega)
  have HV := Lib.hid hv
  have HVC := Lib.hid ((((hv.alloc (.cells #[.int .i64 room, .slice ao al.length cap] 72)).alloc (.cells #[.int .u8 (by8 dh 0), .int .u8 (by8 dh 1), .int .u8 (by8 dh 2), .int .u8 (by8 dh 3), .int .u8 (by8 dh 4), .int .u8 (by8 dh 5), .int .u8 (by8 dh 6), .int .u8 (by8 dh 7), .int .i64 n, .string s] 34)).alloc (.cells #[.int .i64 0, .slice none 0 0] 72)).alloc (.cells #[] 34)).cells
  have HNIL := Lib.hid hnil
  have HO := Lib.hid ((((((Ow.start w).key #[.int .i64 room, .slice ao al.length cap] 72 w.heap.size rfl).key #[.int .u8 (by8 dh 0), .int .u8 (by8 dh 1), .int .u8 (by8 dh 2), .int .u8 (by8 dh 3), .int .u8 (by8 dh 4), .int .u8 (by8 dh 5), .int .u8 (by8 dh 6), .int .u8 (by8 dh 7), .int .i64 n, .string s] 34 (w.heap.size + 1) (by simp)).key #[.int .i64 0, .slice none 0 0] 72 (w.heap.size + 1 + 1) (by simp)).key #[] 34 (w.heap.size + 1 + 1 + 1) (by simp)).perm (L' := [⟨w.heap.size + 1 + 1 + 1, 34, #[]⟩] ++ [⟨w.heap.size + 1 + 1, 72, #[.int .i64 0, .slice none 0 0]⟩, ⟨w.heap.size + 1, 34, #[.int .u8 (by8 dh 0), .int .u8 (by8 dh 1), .int .u8 (by8 dh 2), .int .u8 (by8 dh 3), .int .u8 (by8 dh 4), .int .u8 (by8 dh 5), .int .u8 (by8 dh 6), .int .u8 (by8 dh 7), .int .i64 n, .string s]⟩, ⟨w.heap.size, 72, #[.int .i64 room, .slice ao al.length cap]⟩]) (perm_cnt fun x => by simp only [cnt_append, cnt_cons, cnt_nil] <;> omega))
  have HAT := Lib.hid hat
  clear hv hnil hb hat
  go_enter Try.func53, Try.ntmps53
  go_wp2_with (at_builtin; go_loud (refine HO.out.appendRow rfl (.tmp 27) (.tmp 29) 70 rfl elt_rap (by rfl) (Row.empty _ _ _) ao al.length cap (rall al) (by rfl) (rall_len al) HNIL.out HVC.out (rall_mem al) (by unfold maxLen; omega) (by omega) al.length (by simp) (rall al) (by simp) (fun a7 c7 B7 w7 R7 O7 => ?_)); (have HR7 := Lib.hid R7); (have HO7 := Lib.hid O7); clear R7 O7; (obtain ⟨b2, hb2⟩ : ∃ b, b = w.heap.size := ⟨_, rfl⟩); (obtain ⟨b3, hb3⟩ : ∃ b, b = w.heap.size + 1 := ⟨_, rfl⟩); (obtain ⟨b4, hb4⟩ : ∃ b, b = w.heap.size + 1 + 1 := ⟨_, rfl⟩); (simp only [← hb4] at HO7 ⊢); (simp only [← hb3] at HO7 ⊢); (simp only [← hb2] at HO7 ⊢); clear hb2 hb3 hb4 HO HVC; (have hq2 := HO7.out.has (b := b2) (t := 72) (cs := #[.int .i64 room, .slice ao al.length cap]) (by simp)); (have t0 := hq2.cell 0); (have t1 := hq2.cell 1); (have lt2 := hq2.lt); (have hq3 := HO7.out.has (b := b3) (t := 34) (cs := #[.int .u8 (by8 dh 0), .int .u8 (by8 dh 1), .int .u8 (by8 dh 2), .int .u8 (by8 dh 3), .int .u8 (by8 dh 4), .int .u8 (by8 dh 5), .int .u8 (by8 dh 6), .int .u8 (by8 dh 7), .int .i64 n, .string s]) (by simp)); (have y0 := hq3.cell 0); (have y1 := hq3.cell 1); (have y2 := hq3.cell 2); (have y3 := hq3.cell 3); (have y4 := hq3.cell 4); (have y5 := hq3.cell 5); (have y6 := hq3.cell 6); (have y7 := hq3.cell 7); (have y8 := hq3.cell 8); (have y9 := hq3.cell 9); (have lt3 := hq3.lt); (simp only [List.getElem?_toArray, List.getElem?_cons_succ, List.getElem?_cons_zero] at t0 t1 y0 y1 y2 y3 y4 y5 y6 y7 y8 y9); clear hq2 hq3)
  go_wp2_with fail
  refine (rat_to room _ al (by omega) dh _ (HV.out.below HO7.out.below) _ HAT.out).mono ?_
  rintro e w8 ⟨rfl, hb8⟩
  have HO8 := Lib.hid (HO7.out.of_below hb8)
  clear hb8 HO7 t0 t1 lt2 y0 y1 y2 y3 y4 y5 y6 y7 y8 y9 lt3
  (have hq2 := HO8.out.has (b := b2) (t := 72) (cs := #[.int .i64 room, .slice ao al.length cap]) (by simp)); (have t0 := hq2.cell 0); (have t1 := hq2.cell 1); (have lt2 := hq2.lt)
  (have hq3 := HO8.out.has (b := b3) (t := 34) (cs := #[.int .u8 (by8 dh 0), .int .u8 (by8 dh 1), .int .u8 (by8 dh 2), .int .u8 (by8 dh 3), .int .u8 (by8 dh 4), .int .u8 (by8 dh 5), .int .u8 (by8 dh 6), .int .u8 (by8 dh 7), .int .i64 n, .string s]) (by simp)); (have y0 := hq3.cell 0); (have y1 := hq3.cell 1); (have y2 := hq3.cell 2); (have y3 := hq3.cell 3); (have y4 := hq3.cell 4); (have y5 := hq3.cell 5); (have y6 := hq3.cell 6); (have y7 := hq3.cell 7); (have y8 := hq3.cell 8); (have y9 := hq3.cell 9); (have lt3 := hq3.lt)
  simp only [List.getElem?_toArray, List.getElem?_cons_succ, List.getElem?_cons_zero] at t0 t1 y0 y1 y2 y3 y4 y5 y6 y7 y8 y9
  clear hq2 hq3
  obtain ⟨r7, cc7, e7, hcc7, lr7, hcell7⟩ := HR7.out.openP HO8.out.mem (by omega)
  cases e7
  obtain ⟨nn, hnn⟩ : ∃ z, (al.getD i default).n = z := ⟨_, rfl⟩
  have f8 : w8.cell? ⟨r7, i * 10 + 8, none⟩ = some (.int .i64 nn) := by
    refine hcell7 _ _ ?_
    rw [rall_get al i 8 hi (by omega), ← hnn]
    rfl
  rw [hnn] at ho
  have hdn : decide (n ≤ nn) = true := decide_eq_true ho
  clear hcell7 hnn
  go_wp2_with fail
  refine wp_region_rq (by kernel_rfl) (by kernel_rfl) (by kernel_rfl) ?_
  repeat (first
    | (refine B_skip ?_ ?_; (· rfl); (try simp only [Act.put, List.setIfInBounds_toArray, List.set_cons_zero, List.set_cons_succ]))
    | (refine B_move rfl ?_ ?_; (· rfl); (try simp only [Act.eval, Act.put, Array.getD_eq_getD_getElem?, List.getElem?_toArray, List.getElem?_cons_succ, List.getElem?_cons_zero, Option.getD_some, List.setIfInBounds_toArray, List.set_cons_zero, List.set_cons_succ]))
    | (refine B_plain ?_ ?_; (· rfl); intro K hK; go_big_quiet_op; with_reducible refine hK _ ?_; clear hK K)
    | (fail))
  refine B_nil ?_ rfl ?_ ?_
  · kernel_rfl
  · rfl
  rintro _ ⟨⟨g9, d9⟩, rfl⟩
  simp only [fin, Act.put, List.setIfInBounds_toArray, List.set_cons_zero, List.set_cons_succ]
  go_wp2_with (refine ((HO8.out.plus _ _).perm (L' := ⟨b4, 72, #[.int .i64 0, .slice none 0 0]⟩ :: (B7 ++ [⟨b3, 34, #[.int .u8 (by8 dh 0), .int .u8 (by8 dh 1), .int .u8 (by8 dh 2), .int .u8 (by8 dh 3), .int .u8 (by8 dh 4), .int .u8 (by8 dh 5), .int .u8 (by8 dh 6), .int .u8 (by8 dh 7), .int .i64 n, .string s]⟩, ⟨b2, 72, #[.int .i64 room, .slice ao al.length cap]⟩])) (perm_cnt fun x => by simp only [cnt_append, cnt_cons, cnt_nil] <;> omega)).storeL rfl 72 (.tmp 4) (.tmp 45) rfl (by rfl) #[.int .i64 room, .slice ao al.length cap] (by rfl) (by kernel_rfl) (by rfl) (by simp [Value.oneCell']) ?_; intro w9 O9)
  (have hq4 := O9.has (b := b4) (t := 72) (cs := #[.int .i64 room, .slice ao al.length cap]) (by simp)); (have z0 := hq4.cell 0); (have z1 := hq4.cell 1)
  simp only [List.getElem?_toArray, List.getElem?_cons_succ, List.getElem?_cons_zero] at z0 z1
  refine bodyPost_ret (v := .tuple #[.agg #[.int .i64 room, .slice ao al.length cap], .int .i64 18]) (by simp [results, Try.results53, go_sem, z0, z1]) rfl ⟨rfl, O9.below⟩
set_option maxRecDepth 100000 in
set_option maxHeartbeats 4000000 in
theorem rtake_put (room : Nat) (v : Value) (al : List AP) (hal : al.length ≤ 1000000) (dh : BitVec 64) (n : Int) (s : ByteArray) (hn : isNum n = true) (h8 : 8 ≤ s.size) (hs : s.size ≤ 32776) (w : World) (hv : RSl w v al) (r : Int) (hat : atF al dh = r) (l : List UInt8) (hsl : ({ data := l.toArray } : ByteArray) = s) (i : Nat) (hi : i < al.length) (hr : r = (i : Int)) (ho : ¬ n ≤ (al.getD i default).n) :
    Calls Try.prog 53 #[.agg #[.int .i64 room, v], rApp dh n s] w fun e w' => ∃ v', e = .returned (.tuple #[.agg #[.int .i64 room, v'], .int .i64 0]) ∧ Below w.heap.size w w' ∧ Own 34 10 w.heap.size (al.set i ⟨dh, n, l⟩).length (rall (al.set i ⟨dh, n, l⟩)) v' w' := by
  subst hr
  have HSL := Lib.hid hsl
  have HOO := Lib.hid ho
  clear hsl ho
  obtain ⟨ao, cap, rfl, hcap, hnil⟩ := hv.slice
  have hb := isNum_bd hn
  have h1 : decide (n < 0) = false := decide_eq_false (by omega)
  have h2 : decide (1099511627776 < n) = false := decide_eq_false (by omega)
  have hd : decide ((s.size : Int) < 8) = false := decide_eq_false (by omega)
  have hd2 : decide ((32776 : Int) < (s.size : Int)) = false := decide_eq_false (by omega)
  have HV := Lib.hid hv
  have HVC := Lib.hid ((((hv.alloc (.cells #[.int .i64 room, .slice ao al.length cap] 72)).alloc (.cells #[.int .u8 (by8 dh 0), .int .u8 (by8 dh 1), .int .u8 (by8 dh 2), .int .u8 (by8 dh 3), .int .u8 (by8 dh 4), .int .u8 (by8 dh 5), .int .u8 (by8 dh 6), .int .u8 (by8 dh 7), .int .i64 n, .string s] 34)).alloc (.cells #[.int .i64 0, .slice none 0 0] 72)).alloc (.cells #[] 34)).cells
  have HNIL := Lib.hid hnil
  have HO := Lib.hid ((((((Ow.start w).key #[.int .i64 room, .slice ao al.length cap] 72 w.heap.size rfl).key #[.int .u8 (by8 dh 0), .int .u8 (by8 dh 1), .int .u8 (by8 dh 2), .int .u8 (by8 dh 3), .int .u8 (by8 dh 4), .int .u8 (by8 dh 5), .int .u8 (by8 dh 6), .int .u8 (by8 dh 7), .int .i64 n, .string s] 34 (w.heap.size + 1) (by simp)).key #[.int .i64 0, .slice none 0 0] 72 (w.heap.size + 1 + 1) (by simp)).key #[] 34 (w.heap.size + 1 + 1 + 1) (by simp)).perm (L' := [⟨w.heap.size + 1 + 1 + 1, 34, #[]⟩] ++ [⟨w.heap.size + 1 + 1, 72, #[.int .i64 0, .slice none 0 0]⟩, ⟨w.heap.size + 1, 34, #[.int .u8 (by8 dh 0), .int .u8 (by8 dh 1), .int .u8 (by8 dh 2), .int .u8 (by8 dh 3), .int .u8 (by8 dh 4), .int .u8 (by8 dh 5), .int .u8 (by8 dh 6), .int .u8 (by8 dh 7), .int .i64 n, .string s]⟩, ⟨w.heap.size, 72, #[.int .i64 room, .slice ao al.length cap]⟩]) (perm_cnt fun x => by simp only [cnt_append, cnt_cons, cnt_nil] <;> omega))
  have HAT := Lib.hid hat
  clear hv hnil hb hat
  go_enter Try.func53, Try.ntmps53
  go_wp2_with (at_builtin; go_loud (refine HO.out.appendRow rfl (.tmp 27) (.tmp 29) 70 rfl elt_rap (by rfl) (Row.empty _ _ _) ao al.length cap (rall al) (by rfl) (rall_len al) HNIL.out HVC.out (rall_mem al) (by unfold maxLen; omega) (by omega) al.length (by simp) (rall al) (by simp) (fun a7 c7 B7 w7 R7 O7 => ?_)); (have HR7 := Lib.hid R7); (have HO7 := Lib.hid O7); clear R7 O7; (obtain ⟨b2, hb2⟩ : ∃ b, b = w.heap.size := ⟨_, rfl⟩); (obtain ⟨b3, hb3⟩ : ∃ b, b = w.heap.size + 1 := ⟨_, rfl⟩); (obtain ⟨b4, hb4⟩ : ∃ b, b = w.heap.size + 1 + 1 := ⟨_, rfl⟩); (simp only [← hb4] at HO7 ⊢); (simp only [← hb3] at HO7 ⊢); (simp only [← hb2] at HO7 ⊢); clear hb2 hb3 hb4 HO HVC; (have hq2 := HO7.out.has (b := b2) (t := 72) (cs := #[.int .i64 room, .slice ao al.length cap]) (by simp)); (have t0 := hq2.cell 0); (have t1 := hq2.cell 1); (have lt2 := hq2.lt); (have hq3 := HO7.out.has (b := b3) (t := 34) (cs := #[.int .u8 (by8 dh 0), .int .u8 (by8 dh 1), .int .u8 (by8 dh 2), .int .u8 (by8 dh 3), .int .u8 (by8 dh 4), .int .u8 (by8 dh 5), .int .u8 (by8 dh 6), .int .u8 (by8 dh 7), .int .i64 n, .string s]) (by simp)); (have y0 := hq3.cell 0); (have y1 := hq3.cell 1); (have y2 := hq3.cell 2); (have y3 := hq3.cell 3); (have y4 := hq3.cell 4); (have y5 := hq3.cell 5); (have y6 := hq3.cell 6); (have y7 := hq3.cell 7); (have y8 := hq3.cell 8); (have y9 := hq3.cell 9); (have lt3 := hq3.lt); (simp only [List.getElem?_toArray, List.getElem?_cons_succ, List.getElem?_cons_zero] at t0 t1 y0 y1 y2 y3 y4 y5 y6 y7 y8 y9); clear hq2 hq3)
  go_wp2_with fail
  refine (rat_to room _ al (by omega) dh _ (HV.out.below HO7.out.below) _ HAT.out).mono ?_
  rintro e w8 ⟨rfl, hb8⟩
  have HO8 := Lib.hid (HO7.out.of_below hb8)
  clear hb8 HO7 t0 t1 lt2 y0 y1 y2 y3 y4 y5 y6 y7 y8 y9 lt3
  (have hq2 := HO8.out.has (b := b2) (t := 72) (cs := #[.int .i64 room, .slice ao al.length cap]) (by simp)); (have t0 := hq2.cell 0); (have t1 := hq2.cell 1); (have lt2 := hq2.lt)
  (have hq3 := HO8.out.has (b := b3) (t := 34) (cs := #[.int .u8 (by8 dh 0), .int .u8 (by8 dh 1), .int .u8 (by8 dh 2), .int .u8 (by8 dh 3), .int .u8 (by8 dh 4), .int .u8 (by8 dh 5), .int .u8 (by8 dh 6), .int .u8 (by8 dh 7), .int .i64 n, .string s]) (by simp)); (have y0 := hq3.cell 0); (have y1 := hq3.cell 1); (have y2 := hq3.cell 2); (have y3 := hq3.cell 3); (have y4 := hq3.cell 4); (have y5 := hq3.cell 5); (have y6 := hq3.cell 6); (have y7 := hq3.cell 7); (have y8 := hq3.cell 8); (have y9 := hq3.cell 9); (have lt3 := hq3.lt)
  simp only [List.getElem?_toArray, List.getElem?_cons_succ, List.getElem?_cons_zero] at t0 t1 y0 y1 y2 y3 y4 y5 y6 y7 y8 y9
  clear hq2 hq3
  have ho := HOO.out
  obtain ⟨r7, cc7, e7, hcc7, lr7, hcell7⟩ := HR7.out.openP HO8.out.mem (by omega)
  cases e7
  obtain ⟨nn, hnn⟩ : ∃ z, (al.getD i default).n = z := ⟨_, rfl⟩
  have f8 : w8.cell? ⟨r7, i * 10 + 8, none⟩ = some (.int .i64 nn) := by
    refine hcell7 _ _ ?_
    rw [rall_get al i 8 hi (by omega), ← hnn]
    rfl
  rw [hnn] at ho
  have hdn : decide (n ≤ nn) = false := decide_eq_false (by omega)
  obtain ⟨cur7, HB7⟩ : ∃ cur7, Hid (B7 = [⟨r7, 34, cur7⟩] ∧ al.length ≤ c7 ∧ c7 ≤ maxLen ∧ cur7.size = c7 * 10 ∧ cur7.toList.take (al.length * 10) = rall al) := by
    have hR := HR7.out
    generalize hz : rall al = zs at hR
    obtain ⟨N, hN⟩ : ∃ N, al.length = N := ⟨_, rfl⟩
    rw [hN] at hR
    cases hR with
    | one r n cap cur k1 k2 k3 =>
      subst hN
      exact ⟨cur, rfl, k1, k2, k3, by rw [← hz]⟩
  obtain ⟨rfl, hk1, hk2, hk3, hk4⟩ := HB7.out
  have HK4 := Lib.hid hk4
  clear hcell7 hnn HB7 hk4
  go_wp2_with fail
  refine wp_region_rq (by kernel_rfl) (by kernel_rfl) (by kernel_rfl) ?_
  repeat (first
    | (refine B_skip ?_ ?_; (· rfl); (try simp only [Act.put, List.setIfInBounds_toArray, List.set_cons_zero, List.set_cons_succ]))
    | (refine B_move rfl ?_ ?_; (· rfl); (try simp only [Act.eval, Act.put, Array.getD_eq_getD_getElem?, List.getElem?_toArray, List.getElem?_cons_succ, List.getElem?_cons_zero, Option.getD_some, List.setIfInBounds_toArray, List.set_cons_zero, List.set_cons_succ]))
    | (refine B_plain ?_ ?_; (· rfl); intro K hK; go_big_quiet_op; with_reducible refine hK _ ?_; clear hK K)
    | (fail))
  refine B_nil ?_ rfl ?_ ?_
  · kernel_rfl
  · rfl
  rintro _ ⟨⟨g9, d9⟩, rfl⟩
  simp only [fin, Act.put, List.setIfInBounds_toArray, List.set_cons_zero, List.set_cons_succ]
  go_wp2_with (first | (refine ((HO8.out.plus _ _).perm (L' := ⟨r7, 34, cur7⟩ :: [⟨b4, 72, #[.int .i64 0, .slice none 0 0]⟩, ⟨b3, 34, #[.int .u8 (by8 dh 0), .int .u8 (by8 dh 1), .int .u8 (by8 dh 2), .int .u8 (by8 dh 3), .int .u8 (by8 dh 4), .int .u8 (by8 dh 5), .int .u8 (by8 dh 6), .int .u8 (by8 dh 7), .int .i64 n, .string s]⟩, ⟨b2, 72, #[.int .i64 room, .slice ao al.length cap]⟩]) (perm_cnt fun x => by simp only [cnt_append, cnt_cons, cnt_nil] <;> omega)).storeAtL rfl 34 (.tmp 49) (.tmp 48) rfl (i * 10) (by rfl) #[.int .u8 (by8 dh 0), .int .u8 (by8 dh 1), .int .u8 (by8 dh 2), .int .u8 (by8 dh 3), .int .u8 (by8 dh 4), .int .u8 (by8 dh 5), .int .u8 (by8 dh 6), .int .u8 (by8 dh 7), .int .i64 n, .string s] (by rfl) (by kernel_rfl) (by rw [hk3]; show i * 10 + 10 ≤ c7 * 10; omega) (by simp [Value.oneCell']) ?_; intro w9 O9; have HO9 := Lib.hid O9; clear O9 f8 lr7 t0 t1 lt2 y0 y1 y2 y3 y4 y5 y6 y7 y8 y9 lt3; have hq2 := HO9.out.has (b := b2) (t := 72) (cs := #[.int .i64 room, .slice ao al.length cap]) (by simp); have t0 := hq2.cell 0; have lt2 := hq2.lt; simp only [List.getElem?_toArray, List.getElem?_cons_succ, List.getElem?_cons_zero] at t0; clear hq2) | (refine (HO9.out.perm (L' := ⟨b4, 72, #[.int .i64 0, .slice none 0 0]⟩ :: [⟨r7, 34, writeAt cur7 (i * 10) (#[.int .u8 (by8 dh 0), .int .u8 (by8 dh 1), .int .u8 (by8 dh 2), .int .u8 (by8 dh 3), .int .u8 (by8 dh 4), .int .u8 (by8 dh 5), .int .u8 (by8 dh 6), .int .u8 (by8 dh 7), .int .i64 n, .string s] : Array Value).toList⟩, ⟨b3, 34, #[.int .u8 (by8 dh 0), .int .u8 (by8 dh 1), .int .u8 (by8 dh 2), .int .u8 (by8 dh 3), .int .u8 (by8 dh 4), .int .u8 (by8 dh 5), .int .u8 (by8 dh 6), .int .u8 (by8 dh 7), .int .i64 n, .string s]⟩, ⟨b2, 72, #[.int .i64 room, .slice ao al.length cap]⟩]) (perm_cnt fun x => by simp only [cnt_append, cnt_cons, cnt_nil] <;> omega)).storeL rfl 72 (.tmp 4) (.tmp 53) rfl (by rfl) #[.int .i64 room, .slice (some ⟨r7, 0, none⟩) al.length c7] (by rfl) (by kernel_rfl) (by rfl) (by simp [Value.oneCell']) ?_; intro w10 O10))
  (have hq4 := O10.has (b := b4) (t := 72) (cs := #[.int .i64 room, .slice (some ⟨r7, 0, none⟩) al.length c7]) (by simp)); (have z0 := hq4.cell 0); (have z1 := hq4.cell 1)
  simp only [List.getElem?_toArray, List.getElem?_cons_succ, List.getElem?_cons_zero] at z0 z1
  refine bodyPost_ret (v := .tuple #[.agg #[.int .i64 room, .slice (some ⟨r7, 0, none⟩) al.length c7], .int .i64 0]) (by simp [results, Try.results53, go_sem, z0, z1]) rfl ⟨_, rfl, O10.below, ?_⟩
  have e1 : ([.int .u8 (by8 dh 0), .int .u8 (by8 dh 1), .int .u8 (by8 dh 2), .int .u8 (by8 dh 3), .int .u8 (by8 dh 4), .int .u8 (by8 dh 5), .int .u8 (by8 dh 6), .int .u8 (by8 dh 7), .int .i64 n, .string s] : List Value) = rcs ⟨dh, n, l⟩ := by rw [← HSL.out]; rfl
  rw [e1] at O10
  have hR := Row.one (e := 34) (sz := 10) r7 al.length c7 (writeAt cur7 (i * 10) (rcs ⟨dh, n, l⟩)) hk1 hk2 (by rw [writeAt_len]; exact hk3)
  rw [rall_set al i hi ⟨dh, n, l⟩ cur7 HK4.out] at hR
  (try rw [List.length_set])
  exact ⟨_, _, _, rfl, hR, fun z hz => by
    obtain rfl := List.mem_singleton.1 hz
    exact ⟨O10.new _ (by simp), O10.mem.has _ (by simp)⟩⟩
set_option maxRecDepth 100000 in
set_option maxHeartbeats 8000000 in
theorem rtake_add (room : Nat) (v : Value) (al : List AP) (hal : al.length ≤ 1000000) (dh : BitVec 64) (n : Int) (s : ByteArray) (hn : isNum n = true) (h8 : 8 ≤ s.size) (hs : s.size ≤ 32776) (w : World) (hv : RSl w v al) (r : Int) (hat : atF al dh = r) (l : List UInt8) (hsl : ({ data := l.toArray } : ByteArray) = s) (hr : r = -1) (hroom : al.length ≠ room) :
    Calls Try.prog 53 #[.agg #[.int .i64 room, v], rApp dh n s] w fun e w' => ∃ v', e = .returned (.tuple #[.agg #[.int .i64 room, v'], .int .i64 0]) ∧ Below w.heap.size w w' ∧ Own 34 10 w.heap.size (al ++ [(⟨dh, n, l⟩ : AP)]).length (rall (al ++ [(⟨dh, n, l⟩ : AP)])) v' w' := by
  subst hr
  have HSL := Lib.hid hsl
  clear hsl
  have hdr : ((al.length : Int) == (room : Int)) = false := by rw [beq_eq_false_iff_ne]; omega
  obtain ⟨ao, cap, rfl, hcap, hnil⟩ := hv.slice
  have hb := isNum_bd hn
  have h1 : decide (n < 0) = false := decide_eq_false (by omega)
  have h2 : decide (1099511627776 < n) = false := decide_eq_false (by omega)
  have hd : decide ((s.size : Int) < 8) = false := decide_eq_false (by omega)
  have hd2 : decide ((32776 : Int) < (s.size : Int)) = false := decide_eq_false (by omega)
  have HV := Lib.hid hv
  have HVC := Lib.hid ((((hv.alloc (.cells #[.int .i64 room, .slice ao al.length cap] 72)).alloc (.cells #[.int .u8 (by8 dh 0), .int .u8 (by8 dh 1), .int .u8 (by8 dh 2), .int .u8 (by8 dh 3), .int .u8 (by8 dh 4), .int .u8 (by8 dh 5), .int .u8 (by8 dh 6), .int .u8 (by8 dh 7), .int .i64 n, .string s] 34)).alloc (.cells #[.int .i64 0, .slice none 0 0] 72)).alloc (.cells #[] 34)).cells
  have HNIL := Lib.hid hnil
  have HO := Lib.hid ((((((Ow.start w).key #[.int .i64 room, .slice ao al.length cap] 72 w.heap.size rfl).key #[.int .u8 (by8 dh 0), .int .u8 (by8 dh 1), .int .u8 (by8 dh 2), .int .u8 (by8 dh 3), .int .u8 (by8 dh 4), .int .u8 (by8 dh 5), .int .u8 (by8 dh 6), .int .u8 (by8 dh 7), .int .i64 n, .string s] 34 (w.heap.size + 1) (by simp)).key #[.int .i64 0, .slice none 0 0] 72 (w.heap.size + 1 + 1) (by simp)).key #[] 34 (w.heap.size + 1 + 1 + 1) (by simp)).perm (L' := [⟨w.heap.size + 1 + 1 + 1, 34, #[]⟩] ++ [⟨w.heap.size + 1 + 1, 72, #[.int .i64 0, .slice none 0 0]⟩, ⟨w.heap.size + 1, 34, #[.int .u8 (by8 dh 0), .int .u8 (by8 dh 1), .int .u8 (by8 dh 2), .int .u8 (by8 dh 3), .int .u8 (by8 dh 4), .int .u8 (by8 dh 5), .int .u8 (by8 dh 6), .int .u8 (by8 dh 7), .int .i64 n, .string s]⟩, ⟨w.heap.size, 72, #[.int .i64 room, .slice ao al.length cap]⟩]) (perm_cnt fun x => by simp only [cnt_append, cnt_cons, cnt_nil] <;> omega))
  have HAT := Lib.hid hat
  clear hv hnil hb hat
  go_enter Try.func53, Try.ntmps53
  go_wp2_with (at_builtin; go_loud (refine HO.out.appendRow rfl (.tmp 27) (.tmp 29) 70 rfl elt_rap (by rfl) (Row.empty _ _ _) ao al.length cap (rall al) (by rfl) (rall_len al) HNIL.out HVC.out (rall_mem al) (by unfold maxLen; omega) (by omega) al.length (by simp) (rall al) (by simp) (fun a7 c7 B7 w7 R7 O7 => ?_)); (have HR7 := Lib.hid R7); (have HO7 := Lib.hid O7); clear R7 O7; (obtain ⟨b2, hb2⟩ : ∃ b, b = w.heap.size := ⟨_, rfl⟩); (obtain ⟨b3, hb3⟩ : ∃ b, b = w.heap.size + 1 := ⟨_, rfl⟩); (obtain ⟨b4, hb4⟩ : ∃ b, b = w.heap.size + 1 + 1 := ⟨_, rfl⟩); (simp only [← hb4] at HO7 ⊢); (simp only [← hb3] at HO7 ⊢); (simp only [← hb2] at HO7 ⊢); clear hb2 hb3 hb4 HO HVC; (have hq2 := HO7.out.has (b := b2) (t := 72) (cs := #[.int .i64 room, .slice ao al.length cap]) (by simp)); (have t0 := hq2.cell 0); (have t1 := hq2.cell 1); (have lt2 := hq2.lt); (have hq3 := HO7.out.has (b := b3) (t := 34) (cs := #[.int .u8 (by8 dh 0), .int .u8 (by8 dh 1), .int .u8 (by8 dh 2), .int .u8 (by8 dh 3), .int .u8 (by8 dh 4), .int .u8 (by8 dh 5), .int .u8 (by8 dh 6), .int .u8 (by8 dh 7), .int .i64 n, .string s]) (by simp)); (have y0 := hq3.cell 0); (have y1 := hq3.cell 1); (have y2 := hq3.cell 2); (have y3 := hq3.cell 3); (have y4 := hq3.cell 4); (have y5 := hq3.cell 5); (have y6 := hq3.cell 6); (have y7 := hq3.cell 7); (have y8 := hq3.cell 8); (have y9 := hq3.cell 9); (have lt3 := hq3.lt); (simp only [List.getElem?_toArray, List.getElem?_cons_succ, List.getElem?_cons_zero] at t0 t1 y0 y1 y2 y3 y4 y5 y6 y7 y8 y9); clear hq2 hq3)
  go_wp2_with fail
  refine (rat_to room _ al (by omega) dh _ (HV.out.below HO7.out.below) _ HAT.out).mono ?_
  rintro e w8 ⟨rfl, hb8⟩
  have HO8 := Lib.hid (HO7.out.of_below hb8)
  clear hb8 HO7 t0 t1 lt2 y0 y1 y2 y3 y4 y5 y6 y7 y8 y9 lt3
  (have hq2 := HO8.out.has (b := b2) (t := 72) (cs := #[.int .i64 room, .slice ao al.length cap]) (by simp)); (have t0 := hq2.cell 0); (have t1 := hq2.cell 1); (have lt2 := hq2.lt)
  (have hq3 := HO8.out.has (b := b3) (t := 34) (cs := #[.int .u8 (by8 dh 0), .int .u8 (by8 dh 1), .int .u8 (by8 dh 2), .int .u8 (by8 dh 3), .int .u8 (by8 dh 4), .int .u8 (by8 dh 5), .int .u8 (by8 dh 6), .int .u8 (by8 dh 7), .int .i64 n, .string s]) (by simp)); (have y0 := hq3.cell 0); (have y1 := hq3.cell 1); (have y2 := hq3.cell 2); (have y3 := hq3.cell 3); (have y4 := hq3.cell 4); (have y5 := hq3.cell 5); (have y6 := hq3.cell 6); (have y7 := hq3.cell 7); (have y8 := hq3.cell 8); (have y9 := hq3.cell 9); (have lt3 := hq3.lt)
  simp only [List.getElem?_toArray, List.getElem?_cons_succ, List.getElem?_cons_zero] at t0 t1 y0 y1 y2 y3 y4 y5 y6 y7 y8 y9
  clear hq2 hq3
  go_wp2_with fail
  obtain ⟨k, hk⟩ : ∃ k, w8.heap.size = k := ⟨_, rfl⟩
  refine wp_region_o2 [60, 61, 62, 63, 64, 65, 66, 5] (fun L (x : Option Addr × Nat) => [(L 0, 60, tptr b2), (L 1, 61, .int .i64 room), (L 2, 62, .slice a7 al.length c7), (L 3, 63, .agg #[.int .u8 (by8 dh 0), .int .u8 (by8 dh 1), .int .u8 (by8 dh 2), .int .u8 (by8 dh 3), .int .u8 (by8 dh 4), .int .u8 (by8 dh 5), .int .u8 (by8 dh 6), .int .u8 (by8 dh 7), .int .i64 n, .string s]), (L 4, 64, .slice (some ⟨k, 0, none⟩) 1 1), (L 5, 65, bif L 5 then .slice x.1 (al.length + 1) x.2 else undef), (L 6, 66, bif L 6 then .agg #[.int .i64 room, .slice x.1 (al.length + 1) x.2] else undef), (L 8, 5, .int .i64 0)])
    (fun L x W => Stg w 34 (bif L 4 then ⟨k, 34, #[.int .u8 (by8 dh 0), .int .u8 (by8 dh 1), .int .u8 (by8 dh 2), .int .u8 (by8 dh 3), .int .u8 (by8 dh 4), .int .u8 (by8 dh 5), .int .u8 (by8 dh 6), .int .u8 (by8 dh 7), .int .i64 n, .string s]⟩ :: (⟨b4, 72, bif L 7 then #[.int .i64 room, .slice x.1 (al.length + 1) x.2] else #[.int .i64 0, .slice none 0 0]⟩ :: [⟨b3, 34, #[.int .u8 (by8 dh 0), .int .u8 (by8 dh 1), .int .u8 (by8 dh 2), .int .u8 (by8 dh 3), .int .u8 (by8 dh 4), .int .u8 (by8 dh 5), .int .u8 (by8 dh 6), .int .u8 (by8 dh 7), .int .i64 n, .string s]⟩, ⟨b2, 72, #[.int .i64 room, .slice ao al.length cap]⟩]) else (⟨b4, 72, bif L 7 then #[.int .i64 room, .slice x.1 (al.length + 1) x.2] else #[.int .i64 0, .slice none 0 0]⟩ :: [⟨b3, 34, #[.int .u8 (by8 dh 0), .int .u8 (by8 dh 1), .int .u8 (by8 dh 2), .int .u8 (by8 dh 3), .int .u8 (by8 dh 4), .int .u8 (by8 dh 5), .int .u8 (by8 dh 6), .int .u8 (by8 dh 7), .int .i64 n, .string s]⟩, ⟨b2, 72, #[.int .i64 room, .slice ao al.length cap]⟩])) k (!L 4) (bif L 5 then .slice x.1 (al.length + 1) x.2 else .slice a7 al.length c7) (bif L 5 then al.length + 1 else al.length) (bif L 5 then rall (al ++ [⟨dh, n, l⟩]) else rall al) W) (none, 0) (by kernel_rfl) (by kernel_rfl) 67 (by rfl) (fun _ _ => rfl) (by kernel_rfl) (by kernel_rfl) (by kernel_rfl) (by rfl) ⟨fun _ => hk, B7, HR7.out, HO8.out.drew⟩ ?_ ⟨?_, ?_, ?_, ?_, ?_, ?_, ?_, ?_, ?_, trivial⟩
  rotate_left
  · (intro L x W hW hC hL hd B K hB hK; (try simp [depsB, Region.binds] at hd); (try simp only [Nat.reduceAdd] at hK hL); (have e2 := hB.out 2); (simp (decide := true) only [look, if_true, if_false, hd, cond_true, cond_false, Array.getD_eq_getD_getElem?, List.getElem?_toArray, List.getElem?_cons_succ, List.getElem?_cons_zero, Option.getD_some] at e2); go_simp; exact hK.out (tptr b2) x W (by simp (decide := true) [putO, setF, upd]) hW)
  · (intro L x W hW hC hL hd B K hB hK; (try simp [depsB, Region.binds] at hd); (try simp only [Nat.reduceAdd] at hK hL); (have e60 := hB.out 60); (simp (decide := true) only [look, if_true, if_false, hd, cond_true, cond_false, Array.getD_eq_getD_getElem?, List.getElem?_toArray, List.getElem?_cons_succ, List.getElem?_cons_zero, Option.getD_some] at e60); (have hq := hW.has (b := b2) (t := 72) (cs := #[.int .i64 room, .slice ao al.length cap]) (memC (by simp))); (have q0 := hq.cell 0); (have q1 := hq.cell 1); (have lq := hq.lt); (simp only [List.getElem?_toArray, List.getElem?_cons_succ, List.getElem?_cons_zero] at q0 q1); clear hq; go_simp; exact hK.out (.int .i64 room) x W (by simp (decide := true) [putO, setF, upd]) hW)
  · (intro L x W hW hC hL hd B K hB hK; (try simp [depsB, Region.binds] at hd); (try simp only [Nat.reduceAdd] at hK hL); (have e6 := hB.out 6); (simp (decide := true) only [look, if_true, if_false, hd, cond_true, cond_false, Array.getD_eq_getD_getElem?, List.getElem?_toArray, List.getElem?_cons_succ, List.getElem?_cons_zero, Option.getD_some] at e6); go_simp; exact hK.out (.slice a7 al.length c7) x W (by simp (decide := true) [putO, setF, upd]) hW)
  · (intro L x W hW hC hL hd B K hB hK; (try simp [depsB, Region.binds] at hd); (try simp only [Nat.reduceAdd] at hK hL); (have e3 := hB.out 3); (simp (decide := true) only [look, if_true, if_false, hd, cond_true, cond_false, Array.getD_eq_getD_getElem?, List.getElem?_toArray, List.getElem?_cons_succ, List.getElem?_cons_zero, Option.getD_some] at e3); (have hq := hW.has (b := b3) (t := 34) (cs := #[.int .u8 (by8 dh 0), .int .u8 (by8 dh 1), .int .u8 (by8 dh 2), .int .u8 (by8 dh 3), .int .u8 (by8 dh 4), .int .u8 (by8 dh 5), .int .u8 (by8 dh 6), .int .u8 (by8 dh 7), .int .i64 n, .string s]) (memC (by simp))); (have q0 := hq.cell 0); (have q1 := hq.cell 1); (have q2 := hq.cell 2); (have q3 := hq.cell 3); (have q4 := hq.cell 4); (have q5 := hq.cell 5); (have q6 := hq.cell 6); (have q7 := hq.cell 7); (have q8 := hq.cell 8); (have q9 := hq.cell 9); (have lq := hq.lt); (simp only [List.getElem?_toArray, List.getElem?_cons_succ, List.getElem?_cons_zero] at q0 q1 q2 q3 q4 q5 q6 q7 q8 q9); clear hq; go_simp; exact hK.out (.agg #[.int .u8 (by8 dh 0), .int .u8 (by8 dh 1), .int .u8 (by8 dh 2), .int .u8 (by8 dh 3), .int .u8 (by8 dh 4), .int .u8 (by8 dh 5), .int .u8 (by8 dh 6), .int .u8 (by8 dh 7), .int .i64 n, .string s]) x W (by simp (decide := true) [putO, setF, upd]) hW)
  · intro L x W hW hC hL hd B K hB hK; (try simp [depsB, Region.binds] at hd); (try simp only [Nat.reduceAdd] at hK hL)
    (have e63 := hB.out 63); (simp (decide := true) only [look, if_true, if_false, hd, cond_true, cond_false, Array.getD_eq_getD_getElem?, List.getElem?_toArray, List.getElem?_cons_succ, List.getElem?_cons_zero, Option.getD_some] at e63)
    have h5 : L 5 = false := by cases hl : L 5 with | false => rfl | true => have hx := hC 5 _ rfl hl; simp [depsB, Region.binds, hL] at hx
    have h6 : L 6 = false := by cases hl : L 6 with | false => rfl | true => have hx := hC 6 _ rfl hl; simp [depsB, Region.binds, h5] at hx
    have h7 : L 7 = false := by cases hl : L 7 with | false => rfl | true => have hx := hC 7 _ rfl hl; simp [depsB, Region.binds, h6] at hx
    obtain ⟨hpre, B, hRw, hOw⟩ := hW
    have hk := hpre (by simp [hL])
    simp only [hL, h5, h7, cond_false] at hRw hOw
    refine wp_ran (run_buildSlice_one elt_rap rfl (.agg #[.int .u8 (by8 dh 0), .int .u8 (by8 dh 1), .int .u8 (by8 dh 2), .int .u8 (by8 dh 3), .int .u8 (by8 dh 4), .int .u8 (by8 dh 5), .int .u8 (by8 dh 6), .int .u8 (by8 dh 7), .int .i64 n, .string s]) (by simp [Act.eval, e63]) rfl (by omega) W) ?_
    rw [hk]
    have hO2 := hOw.key #[.int .u8 (by8 dh 0), .int .u8 (by8 dh 1), .int .u8 (by8 dh 2), .int .u8 (by8 dh 3), .int .u8 (by8 dh 4), .int .u8 (by8 dh 5), .int .u8 (by8 dh 6), .int .u8 (by8 dh 7), .int .i64 n, .string s] 34 W.heap.size rfl
    rw [hk] at hO2
    exact hK.out (.slice (some ⟨k, 0, none⟩) 1 1) x _ (by simp (decide := true) [putO, setF, upd]) ⟨by simp [upd], B, by simpa [upd, h5] using hRw, by simpa [upd, h7, Value.cells] using hO2.perm (L' := B ++ (⟨k, 34, #[.int .u8 (by8 dh 0), .int .u8 (by8 dh 1), .int .u8 (by8 dh 2), .int .u8 (by8 dh 3), .int .u8 (by8 dh 4), .int .u8 (by8 dh 5), .int .u8 (by8 dh 6), .int .u8 (by8 dh 7), .int .i64 n, .string s]⟩ :: (⟨b4, 72, #[.int .i64 0, .slice none 0 0]⟩ :: [⟨b3, 34, #[.int .u8 (by8 dh 0), .int .u8 (by8 dh 1), .int .u8 (by8 dh 2), .int .u8 (by8 dh 3), .int .u8 (by8 dh 4), .int .u8 (by8 dh 5), .int .u8 (by8 dh 6), .int .u8 (by8 dh 7), .int .i64 n, .string s]⟩, ⟨b2, 72, #[.int .i64 room, .slice ao al.length cap]⟩]))) (perm_cnt fun x => by simp only [cnt_append, cnt_cons, cnt_nil] <;> omega)⟩
  · intro L x W hW hC hL hd B K hB hK; (try simp [depsB, Region.binds] at hd); (try simp only [Nat.reduceAdd] at hK hL)
    (have e62 := hB.out 62); (simp (decide := true) only [look, if_true, if_false, hd, cond_true, cond_false, Array.getD_eq_getD_getElem?, List.getElem?_toArray, List.getElem?_cons_succ, List.getElem?_cons_zero, Option.getD_some] at e62); (have e64 := hB.out 64); (simp (decide := true) only [look, if_true, if_false, hd, cond_true, cond_false, Array.getD_eq_getD_getElem?, List.getElem?_toArray, List.getElem?_cons_succ, List.getElem?_cons_zero, Option.getD_some] at e64)
    have h6 : L 6 = false := by cases hl : L 6 with | false => rfl | true => have hx := hC 6 _ rfl hl; simp [depsB, Region.binds, hL] at hx
    have h7 : L 7 = false := by cases hl : L 7 with | false => rfl | true => have hx := hC 7 _ rfl hl; simp [depsB, Region.binds, h6] at hx
    obtain ⟨hpre, B, hRw, hOw⟩ := hW
    simp only [hL, hd, h7, cond_false, cond_true] at hRw hOw
    refine hOw.om.appendK (.tmp 62) (.tmp 64) 70 rfl elt_rap (by simp [Act.eval, e62]) hRw _ 1 1 (#[.int .u8 (by8 dh 0), .int .u8 (by8 dh 1), .int .u8 (by8 dh 2), .int .u8 (by8 dh 3), .int .u8 (by8 dh 4), .int .u8 (by8 dh 5), .int .u8 (by8 dh 6), .int .u8 (by8 dh 7), .int .i64 n, .string s] : Array Value).toList (by simp [Act.eval, e64]) (by rfl) (by simp) (blk_news (hOw.has (b := k) (t := 34) (cs := #[.int .u8 (by8 dh 0), .int .u8 (by8 dh 1), .int .u8 (by8 dh 2), .int .u8 (by8 dh 3), .int .u8 (by8 dh 4), .int .u8 (by8 dh 5), .int .u8 (by8 dh 6), .int .u8 (by8 dh 7), .int .i64 n, .string s]) (by simp))) (by simp [Value.oneCell']) (by unfold maxLen; omega) (by omega) (al.length + 1) rfl (rall (al ++ [⟨dh, n, l⟩])) (by rw [rall_app, rall_one, ← HSL.out]; rfl) (fun ao' cap' B' W4 R4 O4 => ?_)
    exact hK.out (.slice ao' (al.length + 1) cap') (ao', cap') W4 (by simp (decide := true) [putO, setF, upd, h6]) ⟨by simp [upd, hd], B', by simpa [upd] using R4, by simpa [upd, hd, h7] using O4.ow⟩
  · (intro L x W hW hC hL hd B K hB hK; (try simp [depsB, Region.binds] at hd); (try simp only [Nat.reduceAdd] at hK hL); (have e61 := hB.out 61); (simp (decide := true) only [look, if_true, if_false, hd, cond_true, cond_false, Array.getD_eq_getD_getElem?, List.getElem?_toArray, List.getElem?_cons_succ, List.getElem?_cons_zero, Option.getD_some] at e61); (have e65 := hB.out 65); (simp (decide := true) only [look, if_true, if_false, hd, cond_true, cond_false, Array.getD_eq_getD_getElem?, List.getElem?_toArray, List.getElem?_cons_succ, List.getElem?_cons_zero, Option.getD_some] at e65); go_simp; exact hK.out (.agg #[.int .i64 room, .slice x.1 (al.length + 1) x.2]) x W (by simp (decide := true) [putO, setF, upd]) hW)
  · intro L x W hW hC hL hd B K hB hK; (try simp [depsB, Region.binds] at hd); (try simp only [Nat.reduceAdd] at hK hL)
    (have e4 := hB.out 4); (simp (decide := true) only [look, if_true, if_false, hd, cond_true, cond_false, Array.getD_eq_getD_getElem?, List.getElem?_toArray, List.getElem?_cons_succ, List.getElem?_cons_zero, Option.getD_some] at e4); (have e66 := hB.out 66); (simp (decide := true) only [look, if_true, if_false, hd, cond_true, cond_false, Array.getD_eq_getD_getElem?, List.getElem?_toArray, List.getElem?_cons_succ, List.getElem?_cons_zero, Option.getD_some] at e66)
    obtain ⟨hpre, B, hRw, hOw⟩ := hW
    simp only [hL, hd, cond_false, cond_true] at hRw hOw
    refine Ow.storeAt (hOw.perm (L' := ⟨b4, 72, #[.int .i64 0, .slice none 0 0]⟩ :: (B ++ (⟨k, 34, #[.int .u8 (by8 dh 0), .int .u8 (by8 dh 1), .int .u8 (by8 dh 2), .int .u8 (by8 dh 3), .int .u8 (by8 dh 4), .int .u8 (by8 dh 5), .int .u8 (by8 dh 6), .int .u8 (by8 dh 7), .int .i64 n, .string s]⟩ :: [⟨b3, 34, #[.int .u8 (by8 dh 0), .int .u8 (by8 dh 1), .int .u8 (by8 dh 2), .int .u8 (by8 dh 3), .int .u8 (by8 dh 4), .int .u8 (by8 dh 5), .int .u8 (by8 dh 6), .int .u8 (by8 dh 7), .int .i64 n, .string s]⟩, ⟨b2, 72, #[.int .i64 room, .slice ao al.length cap]⟩]))) (perm_cnt fun x => by simp only [cnt_append, cnt_cons, cnt_nil] <;> omega)) 72 (.tmp 4) (.tmp 66) (by rfl) 0 (by simp [Act.eval, e4]) #[.int .i64 room, .slice x.1 (al.length + 1) x.2] (by simp [Act.eval, e66]) (by kernel_rfl) (by simp) (by simp [Value.oneCell']) (fun W4 O4 => ?_)
    rw [writeAt_all _ _ (by simp)] at O4
    exact hK.out undef x W4 (by simp (decide := true) [putO, setF, upd]) ⟨by simp [upd, hd], B, by simpa [upd, hd] using hRw, by simpa [upd, hd] using O4.perm (L' := B ++ (⟨k, 34, #[.int .u8 (by8 dh 0), .int .u8 (by8 dh 1), .int .u8 (by8 dh 2), .int .u8 (by8 dh 3), .int .u8 (by8 dh 4), .int .u8 (by8 dh 5), .int .u8 (by8 dh 6), .int .u8 (by8 dh 7), .int .i64 n, .string s]⟩ :: (⟨b4, 72, #[.int .i64 room, .slice x.1 (al.length + 1) x.2]⟩ :: [⟨b3, 34, #[.int .u8 (by8 dh 0), .int .u8 (by8 dh 1), .int .u8 (by8 dh 2), .int .u8 (by8 dh 3), .int .u8 (by8 dh 4), .int .u8 (by8 dh 5), .int .u8 (by8 dh 6), .int .u8 (by8 dh 7), .int .i64 n, .string s]⟩, ⟨b2, 72, #[.int .i64 room, .slice ao al.length cap]⟩]))) (perm_cnt fun x => by simp only [cnt_append, cnt_cons, cnt_nil] <;> omega)⟩
  · (intro L x W hW hC hL hd B K hB hK; (try simp [depsB, Region.binds] at hd); (try simp only [Nat.reduceAdd] at hK hL); go_simp; exact hK.out (.int .i64 0) x W (by simp (decide := true) [putO, setF, upd]) hW)
  intro x9 W9 hW9
  simp only [ovl, cond_true, Array.getD_eq_getD_getElem?, List.getElem?_toArray, List.getElem?_cons_succ, List.getElem?_cons_zero, Option.getD_some, List.setIfInBounds_toArray, List.set_cons_zero, List.set_cons_succ]
  (try simp only [cond_true] at hW9)
  obtain ⟨hpre, B, hRw, hOw⟩ := hW9
  have HO9 := Lib.hid hOw
  have HR9 := Lib.hid hRw
  (have hq4 := hOw.has (b := b4) (t := 72) (cs := #[.int .i64 room, .slice x9.1 (al.length + 1) x9.2]) (by simp)); (have z0 := hq4.cell 0); (have z1 := hq4.cell 1)
  simp only [List.getElem?_toArray, List.getElem?_cons_succ, List.getElem?_cons_zero] at z0 z1
  clear hpre hOw hRw hq4 HO8 HR7
  go_wp2
  refine bodyPost_ret (v := .tuple #[.agg #[.int .i64 room, .slice x9.1 (al.length + 1) x9.2], .int .i64 0]) (by simp [results, Try.results53, go_sem, z0, z1]) rfl ⟨_, rfl, HO9.out.below, ?_⟩
  rw [List.length_append]
  exact ⟨x9.1, x9.2, B, rfl, HR9.out, fun z hz => ⟨HO9.out.new z (by simp [hz]), HO9.out.mem.has z (by simp [hz])⟩⟩

/-! ### Drop -/
theorem add_add0 (q o a j : Nat) : (⟨q, o + a, none⟩ : Addr).add j = (⟨q, o, none⟩ : Addr).add (a + j) := by
  have e1 : (⟨q, o + a, none⟩ : Addr).add j = ⟨q, o + a + j, none⟩ := by
    unfold Addr.add
    split
    · subst_vars; rfl
    · rfl
  have e2 : (⟨q, o, none⟩ : Addr).add (a + j) = ⟨q, o + (a + j), none⟩ := by
    unfold Addr.add
    split
    · rename_i h; rw [h, Nat.add_zero]
    · rfl
  rw [e1, e2, Nat.add_assoc]
theorem rall_take (al : List AP) (i : Nat) : rall (al.take i) = (rall al).take (i * 10) := by
  by_cases h : i ≤ al.length
  · have e := rall_app (al.take i) (al.drop i)
    rw [List.take_append_drop] at e
    have hl : (rall (al.take i)).length = i * 10 := by rw [rall_len]; simp; omega
    rw [e, List.take_append_of_le_length (by omega), List.take_of_length_le (l := rall (al.take i)) (by omega)]
  · rw [List.take_of_length_le (l := al) (by omega), List.take_of_length_le (l := rall al) (by rw [rall_len]; omega)]
theorem rall_drop (al : List AP) (i : Nat) : rall (al.drop i) = (rall al).drop (i * 10) := by
  by_cases h : i ≤ al.length
  · have e := rall_app (al.take i) (al.drop i)
    rw [List.take_append_drop] at e
    have hl : (rall (al.take i)).length = i * 10 := by rw [rall_len]; simp; omega
    rw [e, List.drop_append_of_le_length (by omega), List.drop_of_length_le (l := rall (al.take i)) (by omega), List.nil_append]
  · rw [List.drop_of_length_le (l := al) (by omega), List.drop_of_length_le (l := rall al) (by rw [rall_len]; omega)]
    rfl
set_option maxRecDepth 100000 in
set_option maxHeartbeats 2000000 in
theorem rdrop_none (room : Int) (v : Value) (al : List AP) (hal : al.length ≤ 1000000) (dx : BitVec 64) (w : World) (hv : RSl w v al) (r : Int) (hat : atF al dx = r) (hr : r = -1) :
    Calls Try.prog 67 #[.agg #[.int .i64 room, v], .agg #[.int .u8 (by8 dx 0), .int .u8 (by8 dx 1), .int .u8 (by8 dx 2), .int .u8 (by8 dx 3), .int .u8 (by8 dx 4), .int .u8 (by8 dx 5), .int .u8 (by8 dx 6), .int .u8 (by8 dx 7)]] w fun e w' => e = .returned (.tuple #[.agg #[.int .i64 room, v], .bool false]) ∧ Below w.heap.size w w' := by
  obtain ⟨ao, cap, rfl, hcap, hnil⟩ := hv.slice
  have HV := Lib.hid hv
  have HAT := Lib.hid hat
  subst hr
  have HO := Lib.hid ((((Ow.start w).key #[.int .i64 room, .slice ao al.length cap] 72 w.heap.size rfl).key #[.int .u8 (by8 dx 0), .int .u8 (by8 dx 1), .int .u8 (by8 dx 2), .int .u8 (by8 dx 3), .int .u8 (by8 dx 4), .int .u8 (by8 dx 5), .int .u8 (by8 dx 6), .int .u8 (by8 dx 7)] 22 (w.heap.size + 1) (by simp)).key #[.int .i64 0, .slice none 0 0] 72 (w.heap.size + 1 + 1) (by simp))
  clear hv hnil hat
  go_enter Try.func67, Try.ntmps67
  go_wp2_with fail
  refine (rat_to room _ al (by omega) dx _ (HV.out.below HO.out.below) _ HAT.out).mono ?_
  rintro e w8 ⟨rfl, hb8⟩
  have HO8 := Lib.hid (HO.out.of_below hb8)
  clear hb8 HO
  (have hq2 := HO8.out.has (b := w.heap.size) (t := 72) (cs := #[.int .i64 room, .slice ao al.length cap]) (by simp)); (have t0 := hq2.cell 0); (have t1 := hq2.cell 1); (have lt2 := hq2.lt)
  simp only [List.getElem?_toArray, List.getElem?_cons_succ, List.getElem?_cons_zero] at t0 t1
  clear hq2
  go_wp2_with (refine (HO8.out.perm (L' := ⟨w.heap.size + 1 + 1, 72, #[.int .i64 0, .slice none 0 0]⟩ :: [⟨w.heap.size + 1, 22, #[.int .u8 (by8 dx 0), .int .u8 (by8 dx 1), .int .u8 (by8 dx 2), .int .u8 (by8 dx 3), .int .u8 (by8 dx 4), .int .u8 (by8 dx 5), .int .u8 (by8 dx 6), .int .u8 (by8 dx 7)]⟩, ⟨w.heap.size, 72, #[.int .i64 room, .slice ao al.length cap]⟩]) (perm_cnt fun x => by simp only [cnt_append, cnt_cons, cnt_nil] <;> omega)).storeL rfl 72 (.tmp 4) (.tmp 12) rfl (by rfl) #[.int .i64 room, .slice ao al.length cap] (by rfl) (by kernel_rfl) (by rfl) (by simp [Value.oneCell']) ?_; intro w9 O9)
  (have hq4 := O9.has (b := w.heap.size + 1 + 1) (t := 72) (cs := #[.int .i64 room, .slice ao al.length cap]) (by simp)); (have z0 := hq4.cell 0); (have z1 := hq4.cell 1)
  simp only [List.getElem?_toArray, List.getElem?_cons_succ, List.getElem?_cons_zero] at z0 z1
  refine bodyPost_ret (v := .tuple #[.agg #[.int .i64 room, .slice ao al.length cap], .bool false]) (by simp [results, Try.results67, go_sem, z0, z1]) rfl ⟨rfl, O9.below⟩
set_option maxRecDepth 100000 in
set_option maxHeartbeats 8000000 in
theorem rdrop_yes (room : Int) (v : Value) (al : List AP) (hal : al.length ≤ 1000000) (dx : BitVec 64) (w : World) (hv : RSl w v al) (r : Int) (hat : atF al dx = r) (i : Nat) (hi : i < al.length) (hr : r = (i : Int)) :
    Calls Try.prog 67 #[.agg #[.int .i64 room, v], .agg #[.int .u8 (by8 dx 0), .int .u8 (by8 dx 1), .int .u8 (by8 dx 2), .int .u8 (by8 dx 3), .int .u8 (by8 dx 4), .int .u8 (by8 dx 5), .int .u8 (by8 dx 6), .int .u8 (by8 dx 7)]] w fun e w' => ∃ v', e = .returned (.tuple #[.agg #[.int .i64 room, v'], .bool true]) ∧ Below w.heap.size w w' ∧ Own 34 10 w.heap.size (al.eraseIdx i).length (rall (al.eraseIdx i)) v' w' := by
  obtain ⟨ao, cap, rfl, hcap, hnil⟩ := hv.slice
  obtain ⟨q, o, rfl, -, -⟩ := hv.elem hi
  have HV := Lib.hid hv
  have HAT := Lib.hid hat
  subst hr
  have hi0 : decide ((i : Int) < 0) = false := decide_eq_false (by omega)
  obtain ⟨M, hM⟩ : ∃ M, (al.eraseIdx i).length = M := ⟨_, rfl⟩
  have hM1 : M = al.length - 1 := by rw [← hM, List.length_eraseIdx, if_pos hi]
  have HMM := Lib.hid hM
  have HIC : Hid (i ≤ cap) := by show _ ≤ _; omega
  have HIC1 : Hid (i + 1 ≤ cap) := by show _ ≤ _; omega
  have HI0 : Hid ((0 : Int) ≤ (i : Int) + 1) := by show (0 : Int) ≤ _; omega
  have hMle : M + 1 ≤ 1000000 + 1 := by omega
  have hMi : i + (al.length - (i + 1)) = M := by omega
  have HMI := Lib.hid hMi
  obtain ⟨A, hA, hsrc⟩ : ∃ A : Addr, (if cap = i + 1 then some (⟨q, o, none⟩ : Addr) else some ⟨q, o + (i + 1) * 10, none⟩) = some A ∧ (∀ W, RSl W (.slice (some ⟨q, o, none⟩) al.length cap) al → ∀ ad, some A = some ad → ∀ j u, (rall (al.drop (i + 1)))[j]? = some u → W.cell? (ad.add j) = some u) := by
    by_cases h : cap = i + 1
    · refine ⟨⟨q, o, none⟩, by simp [h], fun W _ ad _ j u hj => ?_⟩
      rw [List.drop_of_length_le (by omega)] at hj
      simp [rall] at hj
    · refine ⟨⟨q, o + (i + 1) * 10, none⟩, by simp [h], fun W hW ad had j u hj => ?_⟩
      cases had
      rw [rall_drop, List.getElem?_drop] at hj
      have := hW.cells _ rfl _ u hj
      rw [← this, add_add0]
  have HA := Lib.hid hA
  have HSRC := Lib.hid hsrc
  have HO := Lib.hid ((((Ow.start w).key #[.int .i64 room, .slice (some ⟨q, o, none⟩) al.length cap] 72 w.heap.size rfl).key #[.int .u8 (by8 dx 0), .int .u8 (by8 dx 1), .int .u8 (by8 dx 2), .int .u8 (by8 dx 3), .int .u8 (by8 dx 4), .int .u8 (by8 dx 5), .int .u8 (by8 dx 6), .int .u8 (by8 dx 7)] 22 (w.heap.size + 1) (by simp)).key #[.int .i64 0, .slice none 0 0] 72 (w.heap.size + 1 + 1) (by simp))
  clear hv hnil hat hM hA hsrc hMi hM1
  go_enter Try.func67, Try.ntmps67
  go_wp2_with fail
  refine (rat_to room _ al (by omega) dx _ (HV.out.below HO.out.below) _ HAT.out).mono ?_
  rintro e w8 ⟨rfl, hb8⟩
  have HO8 := Lib.hid (HO.out.of_below hb8)
  clear hb8 HO
  obtain ⟨b2, hb2⟩ : ∃ b, b = w.heap.size := ⟨_, rfl⟩
  obtain ⟨b3, hb3⟩ : ∃ b, b = w.heap.size + 1 := ⟨_, rfl⟩
  obtain ⟨b4, hb4⟩ : ∃ b, b = w.heap.size + 1 + 1 := ⟨_, rfl⟩
  simp only [← hb4] at HO8 ⊢
  simp only [← hb3] at HO8 ⊢
  simp only [← hb2] at HO8 ⊢
  clear hb2 hb3 hb4
  go_wp2_with fail
  have hMi := HMI.out
  obtain ⟨k, hk⟩ : ∃ k, w8.heap.size = k := ⟨_, rfl⟩
  refine wp_region_o2 [13, 14, 15, 16, 17, 18, 19, 20, 21, 22, 23, 24, 25, 26, 27, 5] (fun L (x : (Option Addr × Nat) × (Option Addr × Nat)) => [(L 0, 13, tptr b2), (L 1, 14, .int .i64 room), (L 2, 15, .slice (some ⟨k, 0, none⟩) 0 0), (L 3, 16, .pointer (some ⟨b2, 1, none⟩)), (L 4, 17, .slice (some ⟨q, o, none⟩) al.length cap), (L 5, 18, .int .i64 i), (L 6, 19, .slice (some ⟨q, o, none⟩) i cap), (L 7, 20, bif L 7 then .slice x.1.1 i x.1.2 else undef), (L 8, 21, .pointer (some ⟨b2, 1, none⟩)), (L 9, 22, .slice (some ⟨q, o, none⟩) al.length cap), (L 10, 23, .int .i64 i), (L 11, 24, .int .i64 ((i : Int) + 1)), (L 12, 25, .slice (some A) (al.length - (i + 1)) (cap - (i + 1))), (L 13, 26, bif L 13 then .slice x.2.1 M x.2.2 else undef), (L 14, 27, bif L 14 then .agg #[.int .i64 room, .slice x.2.1 M x.2.2] else undef), (L 16, 5, .bool true)])
    (fun L x W => Stg w 34 (⟨b4, 72, bif L 15 then #[.int .i64 room, .slice x.2.1 M x.2.2] else #[.int .i64 0, .slice none 0 0]⟩ :: [⟨b3, 22, #[.int .u8 (by8 dx 0), .int .u8 (by8 dx 1), .int .u8 (by8 dx 2), .int .u8 (by8 dx 3), .int .u8 (by8 dx 4), .int .u8 (by8 dx 5), .int .u8 (by8 dx 6), .int .u8 (by8 dx 7)]⟩, ⟨b2, 72, #[.int .i64 room, .slice (some ⟨q, o, none⟩) al.length cap]⟩]) k (!L 2) (bif L 13 then .slice x.2.1 M x.2.2 else bif L 7 then .slice x.1.1 i x.1.2 else bif L 2 then .slice (some ⟨k, 0, none⟩) 0 0 else .slice none 0 0) (bif L 13 then M else bif L 7 then i else 0) (bif L 13 then rall (al.eraseIdx i) else bif L 7 then rall (al.take i) else []) W) ((none, 0), (none, 0)) (by kernel_rfl) (by kernel_rfl) 28 (by rfl) (fun _ _ => rfl) (by kernel_rfl) (by kernel_rfl) (by kernel_rfl) (by rfl) ⟨fun _ => hk, [], .void, HO8.out.drew⟩ ?_ ⟨?_, ?_, ?_, ?_, ?_, ?_, ?_, ?_, ?_, ?_, ?_, ?_, ?_, ?_, ?_, ?_, ?_, trivial⟩
  rotate_left
  · (intro L x W hW hC hL hd B K hB hK; (try simp [depsB, Region.binds] at hd); (try simp only [Nat.reduceAdd] at hK hL); (have e2 := hB.out 2); (simp (decide := true) only [look, if_true, if_false, hd, cond_true, cond_false, Array.getD_eq_getD_getElem?, List.getElem?_toArray, List.getElem?_cons_succ, List.getElem?_cons_zero, Option.getD_some] at e2); go_simp; exact hK.out (tptr b2) x W (by simp (decide := true) [putO, setF, upd]) hW)
  · (intro L x W hW hC hL hd B K hB hK; (try simp [depsB, Region.binds] at hd); (try simp only [Nat.reduceAdd] at hK hL); (have e13 := hB.out 13); (simp (decide := true) only [look, if_true, if_false, hd, cond_true, cond_false, Array.getD_eq_getD_getElem?, List.getElem?_toArray, List.getElem?_cons_succ, List.getElem?_cons_zero, Option.getD_some] at e13); (have hq := hW.has (b := b2) (t := 72) (cs := #[.int .i64 room, .slice (some ⟨q, o, none⟩) al.length cap]) (by simp)); (have q0 := hq.cell 0); (have q1 := hq.cell 1); (have lq := hq.lt); (simp only [List.getElem?_toArray, List.getElem?_cons_succ, List.getElem?_cons_zero] at q0 q1); clear hq; go_simp; exact hK.out (.int .i64 room) x W (by simp (decide := true) [putO, setF, upd]) hW)
  · intro L x W hW hC hL hd B K hB hK; (try simp [depsB, Region.binds] at hd); (try simp only [Nat.reduceAdd] at hK hL)
    have h7 : L 7 = false := by cases hl : L 7 with | false => rfl | true => have hx := hC 7 _ rfl hl; simp [depsB, Region.binds, hL] at hx
    have h13 : L 13 = false := by cases hl : L 13 with | false => rfl | true => have hx := hC 13 _ rfl hl; simp [depsB, Region.binds, h7] at hx
    have h15 : L 15 = false := by cases hl : L 15 with | false => rfl | true => have hx := hC 15 _ rfl hl; simp [depsB, Region.binds, hL] at hx
    obtain ⟨hpre, B, hRw, hOw⟩ := hW
    have hk := hpre (by simp [hL])
    simp only [hL, h7, h13, h15, cond_false] at hRw hOw
    have hBn : B = [] := by cases hRw; rfl
    subst hBn
    refine wp_ran (run_buildSlice_zero elt_rap rfl W) ?_
    have hO2 := hOw.key #[] 34 W.heap.size rfl
    rw [hk] at hO2 ⊢
    exact hK.out (.slice (some ⟨k, 0, none⟩) 0 0) x _ (by simp (decide := true) [putO, setF, upd]) ⟨by simp [upd], [⟨k, 34, #[]⟩], by simpa [upd, h7, h13] using Row.empty 34 10 k, by simpa [upd, h15] using hO2⟩
  · (intro L x W hW hC hL hd B K hB hK; (try simp [depsB, Region.binds] at hd); (try simp only [Nat.reduceAdd] at hK hL); (have e2 := hB.out 2); (simp (decide := true) only [look, if_true, if_false, hd, cond_true, cond_false, Array.getD_eq_getD_getElem?, List.getElem?_toArray, List.getElem?_cons_succ, List.getElem?_cons_zero, Option.getD_some] at e2); go_simp; exact hK.out (.pointer (some ⟨b2, 1, none⟩)) x W (by simp (decide := true) [putO, setF, upd]) hW)
  · (intro L x W hW hC hL hd B K hB hK; (try simp [depsB, Region.binds] at hd); (try simp only [Nat.reduceAdd] at hK hL); (have e16 := hB.out 16); (simp (decide := true) only [look, if_true, if_false, hd, cond_true, cond_false, Array.getD_eq_getD_getElem?, List.getElem?_toArray, List.getElem?_cons_succ, List.getElem?_cons_zero, Option.getD_some] at e16); (have hq := hW.has (b := b2) (t := 72) (cs := #[.int .i64 room, .slice (some ⟨q, o, none⟩) al.length cap]) (by simp)); (have q0 := hq.cell 0); (have q1 := hq.cell 1); (have lq := hq.lt); (simp only [List.getElem?_toArray, List.getElem?_cons_succ, List.getElem?_cons_zero] at q0 q1); clear hq; go_simp; exact hK.out (.slice (some ⟨q, o, none⟩) al.length cap) x W (by simp (decide := true) [putO, setF, upd]) hW)
  · (intro L x W hW hC hL hd B K hB hK; (try simp [depsB, Region.binds] at hd); (try simp only [Nat.reduceAdd] at hK hL); (have e6 := hB.out 6); (simp (decide := true) only [look, if_true, if_false, hd, cond_true, cond_false, Array.getD_eq_getD_getElem?, List.getElem?_toArray, List.getElem?_cons_succ, List.getElem?_cons_zero, Option.getD_some] at e6); go_simp; exact hK.out (.int .i64 i) x W (by simp (decide := true) [putO, setF, upd]) hW)
  · (intro L x W hW hC hL hd B K hB hK; (try simp [depsB, Region.binds] at hd); (try simp only [Nat.reduceAdd] at hK hL); (have e17 := hB.out 17); (simp (decide := true) only [look, if_true, if_false, hd, cond_true, cond_false, Array.getD_eq_getD_getElem?, List.getElem?_toArray, List.getElem?_cons_succ, List.getElem?_cons_zero, Option.getD_some] at e17); (have e18 := hB.out 18); (simp (decide := true) only [look, if_true, if_false, hd, cond_true, cond_false, Array.getD_eq_getD_getElem?, List.getElem?_toArray, List.getElem?_cons_succ, List.getElem?_cons_zero, Option.getD_some] at e18); (have hic := HIC.out); go_simp; exact hK.out (.slice (some ⟨q, o, none⟩) i cap) x W (by simp (decide := true) [putO, setF, upd]) hW)
  · intro L x W hW hC hL hd B K hB hK; (try simp [depsB, Region.binds] at hd); (try simp only [Nat.reduceAdd] at hK hL)
    (have e15 := hB.out 15); (simp (decide := true) only [look, if_true, if_false, hd, cond_true, cond_false, Array.getD_eq_getD_getElem?, List.getElem?_toArray, List.getElem?_cons_succ, List.getElem?_cons_zero, Option.getD_some] at e15); (have e19 := hB.out 19); (simp (decide := true) only [look, if_true, if_false, hd, cond_true, cond_false, Array.getD_eq_getD_getElem?, List.getElem?_toArray, List.getElem?_cons_succ, List.getElem?_cons_zero, Option.getD_some] at e19)
    have h13 : L 13 = false := by cases hl : L 13 with | false => rfl | true => have hx := hC 13 _ rfl hl; simp [depsB, Region.binds, hL] at hx
    have h14 : L 14 = false := by cases hl : L 14 with | false => rfl | true => have hx := hC 14 _ rfl hl; simp [depsB, Region.binds, h13] at hx
    have h15 : L 15 = false := by cases hl : L 15 with | false => rfl | true => have hx := hC 15 _ rfl hl; simp [depsB, Region.binds, hL] at hx
    obtain ⟨hpre, B, hRw, hOw⟩ := hW
    simp only [hL, hd, h13, h15, cond_false, cond_true] at hRw hOw
    refine hOw.om.appendK (.tmp 15) (.tmp 19) 70 rfl elt_rap (by simp [Act.eval, e15]) hRw (some ⟨q, o, none⟩) i cap (rall (al.take i)) (by simp [Act.eval, e19]) (by rw [rall_len]; simp; omega) (by simp) (fun ad had j u hj => ?_) (rall_mem _) (by unfold maxLen; omega) (by omega) i (by omega) (rall (al.take i)) (by simp) (fun ao' cap' B' W4 R4 O4 => ?_)
    · rw [rall_take] at hj
      refine (HV.out.below hOw.below).cells ad had j u ?_
      rw [List.getElem?_take] at hj
      split at hj
      · exact hj
      · cases hj
    exact hK.out (.slice ao' i cap') ((ao', cap'), x.2) W4 (by simp (decide := true) [putO, setF, upd, h13, h14]) ⟨fun h => by simp [upd, hd] at h, B', by simpa [upd, h13] using R4, by simpa [upd, h15] using O4.ow⟩
  · (intro L x W hW hC hL hd B K hB hK; (try simp [depsB, Region.binds] at hd); (try simp only [Nat.reduceAdd] at hK hL); (have e2 := hB.out 2); (simp (decide := true) only [look, if_true, if_false, hd, cond_true, cond_false, Array.getD_eq_getD_getElem?, List.getElem?_toArray, List.getElem?_cons_succ, List.getElem?_cons_zero, Option.getD_some] at e2); go_simp; exact hK.out (.pointer (some ⟨b2, 1, none⟩)) x W (by simp (decide := true) [putO, setF, upd]) hW)
  · (intro L x W hW hC hL hd B K hB hK; (try simp [depsB, Region.binds] at hd); (try simp only [Nat.reduceAdd] at hK hL); (have e21 := hB.out 21); (simp (decide := true) only [look, if_true, if_false, hd, cond_true, cond_false, Array.getD_eq_getD_getElem?, List.getElem?_toArray, List.getElem?_cons_succ, List.getElem?_cons_zero, Option.getD_some] at e21); (have hq := hW.has (b := b2) (t := 72) (cs := #[.int .i64 room, .slice (some ⟨q, o, none⟩) al.length cap]) (by simp)); (have q0 := hq.cell 0); (have q1 := hq.cell 1); (have lq := hq.lt); (simp only [List.getElem?_toArray, List.getElem?_cons_succ, List.getElem?_cons_zero] at q0 q1); clear hq; go_simp; exact hK.out (.slice (some ⟨q, o, none⟩) al.length cap) x W (by simp (decide := true) [putO, setF, upd]) hW)
  · (intro L x W hW hC hL hd B K hB hK; (try simp [depsB, Region.binds] at hd); (try simp only [Nat.reduceAdd] at hK hL); (have e6 := hB.out 6); (simp (decide := true) only [look, if_true, if_false, hd, cond_true, cond_false, Array.getD_eq_getD_getElem?, List.getElem?_toArray, List.getElem?_cons_succ, List.getElem?_cons_zero, Option.getD_some] at e6); go_simp; exact hK.out (.int .i64 i) x W (by simp (decide := true) [putO, setF, upd]) hW)
  · (intro L x W hW hC hL hd B K hB hK; (try simp [depsB, Region.binds] at hd); (try simp only [Nat.reduceAdd] at hK hL); (have e23 := hB.out 23); (simp (decide := true) only [look, if_true, if_false, hd, cond_true, cond_false, Array.getD_eq_getD_getElem?, List.getElem?_toArray, List.getElem?_cons_succ, List.getElem?_cons_zero, Option.getD_some] at e23); (have hwr : IntKind.i64.wrap ((i : Int) + 1) = (i : Int) + 1 := IntWalk.i64_in _ (by omega)); go_simp; (try rw [hwr]); exact hK.out (.int .i64 ((i : Int) + 1)) x W (by simp (decide := true) [putO, setF, upd]) hW)
  · (intro L x W hW hC hL hd B K hB hK; (try simp [depsB, Region.binds] at hd); (try simp only [Nat.reduceAdd] at hK hL); (have e22 := hB.out 22); (simp (decide := true) only [look, if_true, if_false, hd, cond_true, cond_false, Array.getD_eq_getD_getElem?, List.getElem?_toArray, List.getElem?_cons_succ, List.getElem?_cons_zero, Option.getD_some] at e22); (have e24 := hB.out 24); (simp (decide := true) only [look, if_true, if_false, hd, cond_true, cond_false, Array.getD_eq_getD_getElem?, List.getElem?_toArray, List.getElem?_cons_succ, List.getElem?_cons_zero, Option.getD_some] at e24); (have hle : ((i : Int) + 1 ≤ (al.length : Int)) := by omega); (have hi0' := HI0.out); (have hic1 := HIC1.out); (have hA := HA.out); go_simp; exact hK.out (.slice (some A) (al.length - (i + 1)) (cap - (i + 1))) x W (by simp (decide := true) [putO, setF, upd]) hW)
  · intro L x W hW hC hL hd B K hB hK; (try simp [depsB, Region.binds] at hd); (try simp only [Nat.reduceAdd] at hK hL)
    (have e20 := hB.out 20); (simp (decide := true) only [look, if_true, if_false, hd, cond_true, cond_false, Array.getD_eq_getD_getElem?, List.getElem?_toArray, List.getElem?_cons_succ, List.getElem?_cons_zero, Option.getD_some] at e20); (have e25 := hB.out 25); (simp (decide := true) only [look, if_true, if_false, hd, cond_true, cond_false, Array.getD_eq_getD_getElem?, List.getElem?_toArray, List.getElem?_cons_succ, List.getElem?_cons_zero, Option.getD_some] at e25)
    have h7 : L 7 = true := by simp [hd]
    have h2 : L 2 = true := by cases hl : L 2 with | true => rfl | false => have hx := hC 7 _ rfl h7; simp [depsB, Region.binds, hl] at hx
    have h14 : L 14 = false := by cases hl : L 14 with | false => rfl | true => have hx := hC 14 _ rfl hl; simp [depsB, Region.binds, hL] at hx
    have h15 : L 15 = false := by cases hl : L 15 with | false => rfl | true => have hx := hC 15 _ rfl hl; simp [depsB, Region.binds, hL] at hx
    obtain ⟨hpre, B, hRw, hOw⟩ := hW
    simp only [hL, hd, h15, cond_false, cond_true] at hRw hOw
    have hA := HA.out
    refine hOw.om.appendK (.tmp 20) (.tmp 25) 70 rfl elt_rap (by simp [Act.eval, e20]) hRw (some A) (al.length - (i + 1)) (cap - (i + 1)) (rall (al.drop (i + 1))) (by simp [Act.eval, e25]) (by rw [rall_len]; simp) (by simp) (fun ad had j u hj => ?_) (rall_mem _) (by unfold maxLen; omega) (by omega) M (by omega) (rall (al.eraseIdx i)) (by rw [List.eraseIdx_eq_take_drop_succ, rall_app]) (fun ao' cap' B' W4 R4 O4 => ?_)
    · exact HSRC.out W (HV.out.below hOw.below) ad had j u hj
    exact hK.out (.slice ao' M cap') (x.1, (ao', cap')) W4 (by simp (decide := true) [putO, setF, upd, h14]) ⟨fun h => by simp [upd, h2] at h, B', by simpa [upd] using R4, by simpa [upd, h15] using O4.ow⟩
  · (intro L x W hW hC hL hd B K hB hK; (try simp [depsB, Region.binds] at hd); (try simp only [Nat.reduceAdd] at hK hL); (have e14 := hB.out 14); (simp (decide := true) only [look, if_true, if_false, hd, cond_true, cond_false, Array.getD_eq_getD_getElem?, List.getElem?_toArray, List.getElem?_cons_succ, List.getElem?_cons_zero, Option.getD_some] at e14); (have e26 := hB.out 26); (simp (decide := true) only [look, if_true, if_false, hd, cond_true, cond_false, Array.getD_eq_getD_getElem?, List.getElem?_toArray, List.getElem?_cons_succ, List.getElem?_cons_zero, Option.getD_some] at e26); go_simp; exact hK.out (.agg #[.int .i64 room, .slice x.2.1 M x.2.2]) x W (by simp (decide := true) [putO, setF, upd]) hW)
  · intro L x W hW hC hL hd B K hB hK; (try simp [depsB, Region.binds] at hd); (try simp only [Nat.reduceAdd] at hK hL)
    (have e4 := hB.out 4); (simp (decide := true) only [look, if_true, if_false, hd, cond_true, cond_false, Array.getD_eq_getD_getElem?, List.getElem?_toArray, List.getElem?_cons_succ, List.getElem?_cons_zero, Option.getD_some] at e4); (have e27 := hB.out 27); (simp (decide := true) only [look, if_true, if_false, hd, cond_true, cond_false, Array.getD_eq_getD_getElem?, List.getElem?_toArray, List.getElem?_cons_succ, List.getElem?_cons_zero, Option.getD_some] at e27)
    have h13 : L 13 = true := by cases hl : L 13 with | true => rfl | false => have hx := hC 14 _ rfl (by simp [hd]); simp [depsB, Region.binds, hl] at hx
    have h7 : L 7 = true := by cases hl : L 7 with | true => rfl | false => have hx := hC 13 _ rfl h13; simp [depsB, Region.binds, hl] at hx
    have h2 : L 2 = true := by cases hl : L 2 with | true => rfl | false => have hx := hC 7 _ rfl h7; simp [depsB, Region.binds, hl] at hx
    obtain ⟨hpre, B, hRw, hOw⟩ := hW
    simp only [hL, h13, cond_false, cond_true] at hRw hOw
    refine Ow.storeAt (hOw.perm (L' := ⟨b4, 72, #[.int .i64 0, .slice none 0 0]⟩ :: (B ++ [⟨b3, 22, #[.int .u8 (by8 dx 0), .int .u8 (by8 dx 1), .int .u8 (by8 dx 2), .int .u8 (by8 dx 3), .int .u8 (by8 dx 4), .int .u8 (by8 dx 5), .int .u8 (by8 dx 6), .int .u8 (by8 dx 7)]⟩, ⟨b2, 72, #[.int .i64 room, .slice (some ⟨q, o, none⟩) al.length cap]⟩])) (perm_cnt fun x => by simp only [cnt_append, cnt_cons, cnt_nil] <;> omega)) 72 (.tmp 4) (.tmp 27) (by rfl) 0 (by simp [Act.eval, e4]) #[.int .i64 room, .slice x.2.1 M x.2.2] (by simp [Act.eval, e27]) (by kernel_rfl) (by simp) (by simp [Value.oneCell']) (fun W4 O4 => ?_)
    rw [writeAt_all _ _ (by simp)] at O4
    exact hK.out undef x W4 (by simp (decide := true) [putO, setF, upd]) ⟨fun h => by simp [upd, h2] at h, B, by simpa [upd, h13] using hRw, by simpa [upd, h13] using O4.perm (L' := B ++ (⟨b4, 72, #[.int .i64 room, .slice x.2.1 M x.2.2]⟩ :: [⟨b3, 22, #[.int .u8 (by8 dx 0), .int .u8 (by8 dx 1), .int .u8 (by8 dx 2), .int .u8 (by8 dx 3), .int .u8 (by8 dx 4), .int .u8 (by8 dx 5), .int .u8 (by8 dx 6), .int .u8 (by8 dx 7)]⟩, ⟨b2, 72, #[.int .i64 room, .slice (some ⟨q, o, none⟩) al.length cap]⟩])) (perm_cnt fun x => by simp only [cnt_append, cnt_cons, cnt_nil] <;> omega)⟩
  · (intro L x W hW hC hL hd B K hB hK; (try simp [depsB, Region.binds] at hd); (try simp only [Nat.reduceAdd] at hK hL); go_simp; exact hK.out (.bool true) x W (by simp (decide := true) [putO, setF, upd]) hW)
  intro x9 W9 hW9
  simp only [ovl, cond_true, Array.getD_eq_getD_getElem?, List.getElem?_toArray, List.getElem?_cons_succ, List.getElem?_cons_zero, Option.getD_some, List.setIfInBounds_toArray, List.set_cons_zero, List.set_cons_succ]
  (try simp only [cond_true] at hW9)
  obtain ⟨hpre, B, hRw, hOw⟩ := hW9
  have HO9 := Lib.hid hOw
  have HR9 := Lib.hid hRw
  (have hq4 := hOw.has (b := b4) (t := 72) (cs := #[.int .i64 room, .slice x9.2.1 M x9.2.2]) (by simp)); (have z0 := hq4.cell 0); (have z1 := hq4.cell 1)
  simp only [List.getElem?_toArray, List.getElem?_cons_succ, List.getElem?_cons_zero] at z0 z1
  clear hpre hOw hRw hq4 HO8 hMi
  go_wp2
  refine bodyPost_ret (v := .tuple #[.agg #[.int .i64 room, .slice x9.2.1 M x9.2.2], .bool true]) (by simp [results, Try.results67, go_sem, z0, z1]) rfl ⟨_, rfl, HO9.out.below, ?_⟩
  rw [HMM.out]
  exact ⟨x9.2.1, x9.2.2, B, rfl, HR9.out, fun z hz => ⟨HO9.out.new z (by simp [hz]), HO9.out.mem.has z (by simp [hz])⟩⟩

end Go.Proofs.Ytghaiplhakeahaa
