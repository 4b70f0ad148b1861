/- once: contracts of start, piece, the closures, key. -/
import Derived.Test.YthdcfdfpfagamaaDg
import Derived.Test.YthdcfdfpfagamaaZ
import Derived.Test.YthdcfdfpfagamaaMany
import Derived.Test.YthdcfdfpfagamaaRq
import Derived.Laws.MakeOwn
import Derived.Outline
namespace Go.Proofs.Ythdcfdfpfagamaa
set_option linter.unusedSimpArgs false
set_option linter.unusedVariables false
open Go.RowKit

theorem fromNum_int (c : Nat) (hc : c < 18446744073709551616) (z : BitVec 64) (hz : BitVec.ofNat 64 c = z) (w : World) :
    Calls Try.prog 65 #[.int .u64 c] w fun e w' => e = .returned (.agg #[.int .u8 (by8 z 0), .int .u8 (by8 z 1), .int .u8 (by8 z 2), .int .u8 (by8 z 3), .int .u8 (by8 z 4), .int .u8 (by8 z 5), .int .u8 (by8 z 6), .int .u8 (by8 z 7)]) ∧ Below w.heap.size w w' := by
  subst hz; exact fromNum_lit _ _ (nv_lit c hc) w
theorem refFromNum_int (c : Nat) (hc : c < 18446744073709551616) (z : BitVec 64) (hz : BitVec.ofNat 64 c = z) (w : World) :
    Calls Try.prog 67 #[.int .u64 c] w fun e w' => e = .returned (.agg #[.int .u8 (by8 z 0), .int .u8 (by8 z 1), .int .u8 (by8 z 2), .int .u8 (by8 z 3), .int .u8 (by8 z 4), .int .u8 (by8 z 5), .int .u8 (by8 z 6), .int .u8 (by8 z 7)]) ∧ Below w.heap.size w w' := by
  subst hz; exact refFromNum_lit _ _ (nv_lit c hc) w
theorem two_to (x y z : BitVec 64) (h : twoF x y = z) (w : World) :
    Calls Try.prog 57 #[.agg #[.int .u8 (by8 x 0), .int .u8 (by8 x 1), .int .u8 (by8 x 2), .int .u8 (by8 x 3), .int .u8 (by8 x 4), .int .u8 (by8 x 5), .int .u8 (by8 x 6), .int .u8 (by8 x 7)], .agg #[.int .u8 (by8 y 0), .int .u8 (by8 y 1), .int .u8 (by8 y 2), .int .u8 (by8 y 3), .int .u8 (by8 y 4), .int .u8 (by8 y 5), .int .u8 (by8 y 6), .int .u8 (by8 y 7)]] w fun e w' => e = .returned (.agg #[.int .u8 (by8 z 0), .int .u8 (by8 z 1), .int .u8 (by8 z 2), .int .u8 (by8 z 3), .int .u8 (by8 z 4), .int .u8 (by8 z 5), .int .u8 (by8 z 6), .int .u8 (by8 z 7)]) ∧ Below w.heap.size w w' := by
  subst h; exact two_any x y w
theorem refTwo_to (x y z : BitVec 64) (h : twoF x y = z) (w : World) :
    Calls Try.prog 54 #[.agg #[.int .u8 (by8 x 0), .int .u8 (by8 x 1), .int .u8 (by8 x 2), .int .u8 (by8 x 3), .int .u8 (by8 x 4), .int .u8 (by8 x 5), .int .u8 (by8 x 6), .int .u8 (by8 x 7)], .agg #[.int .u8 (by8 y 0), .int .u8 (by8 y 1), .int .u8 (by8 y 2), .int .u8 (by8 y 3), .int .u8 (by8 y 4), .int .u8 (by8 y 5), .int .u8 (by8 y 6), .int .u8 (by8 y 7)]] w fun e w' => e = .returned (.agg #[.int .u8 (by8 z 0), .int .u8 (by8 z 1), .int .u8 (by8 z 2), .int .u8 (by8 z 3), .int .u8 (by8 z 4), .int .u8 (by8 z 5), .int .u8 (by8 z 6), .int .u8 (by8 z 7)]) ∧ Below w.heap.size w w' := by
  subst h; exact refTwo_any x y w

def startF (s : BitVec 64) (c : Nat) : BitVec 64 := twoF s (BitVec.ofNat 64 c)
def keyF (f : Nat → BitVec 64) : BitVec 64 := manyF ((List.range 18).map f)
def publicF (s : BitVec 64) : BitVec 64 := keyF fun c => chainF (startF s c) 15
noncomputable def signF (s m : BitVec 64) (c : Nat) : BitVec 64 := chainF (startF s c) (dgt m c).toNat
noncomputable def toldF (m : BitVec 64) (l : List UInt8) : BitVec 64 := keyF fun c => chainF (wordAt l c) (15 - (dgt m c).toNat)

set_option maxRecDepth 100000 in
set_option maxHeartbeats 1000000 in
theorem start_to (s : BitVec 64) (c : Nat) (hc : c < 1000) (z : BitVec 64) (hz : startF s c = z) (w : World) :
    Calls Try.prog 47 #[.agg #[.int .u8 (by8 s 0), .int .u8 (by8 s 1), .int .u8 (by8 s 2), .int .u8 (by8 s 3), .int .u8 (by8 s 4), .int .u8 (by8 s 5), .int .u8 (by8 s 6), .int .u8 (by8 s 7)], .int .i64 c] w fun e w' => e = .returned (.agg #[.int .u8 (by8 z 0), .int .u8 (by8 z 1), .int .u8 (by8 z 2), .int .u8 (by8 z 3), .int .u8 (by8 z 4), .int .u8 (by8 z 5), .int .u8 (by8 z 6), .int .u8 (by8 z 7)]) ∧ Below w.heap.size w w' := by
  obtain ⟨y, HY⟩ : ∃ y, Hid (BitVec.ofNat 64 c = y) := ⟨_, rfl⟩
  have HZ : Hid (twoF s y = z) := by show _ = _; rw [← HY.out]; exact hz
  have hc6 : c < 18446744073709551616 := by omega
  clear hz
  go_enter Try.func47, Try.ntmps47
  go_wp2
  refine wp_region_rt 5 1 (by kernel_rfl) (by kernel_rfl) (by kernel_rfl) (by kernel_rfl) ?_
  simp only [List.take_succ_cons, List.take_zero]
  repeat (first
    | (refine B_skip ?_ ?_; (· rfl); (try simp only [Act.put, List.setIfInBounds_toArray, List.set_cons_zero, List.set_cons_succ]))
    | (refine B_move rfl ?_ ?_; (· rfl); (try simp only [Act.eval, Act.put, Array.getD_eq_getD_getElem?, List.getElem?_toArray, List.getElem?_cons_succ, List.getElem?_cons_zero, Option.getD_some, List.setIfInBounds_toArray, List.set_cons_zero, List.set_cons_succ]))
    | (refine B_plain ?_ ?_; (· rfl); intro K hK; go_big_quiet_op; with_reducible refine hK _ ?_; clear hK K)
    | (refine B_callX (v := ?_) (f := 65) rfl (by kernel_rfl) ?_ (fun xq => ?_) ?_; rotate_left; (· rfl); (· ((simp only [List.map_toArray, List.map_cons, List.map_nil, Act.eval, Array.getD_eq_getD_getElem?, List.getElem?_toArray, List.getElem?_cons_succ, List.getElem?_cons_zero, Option.getD_some]); with_reducible apply retB; with_reducible exact (fromNum_int c hc6 y HY.out _))); (try simp only [Act.put, List.setIfInBounds_toArray, List.set_cons_zero, List.set_cons_succ]))
    | (refine B_callX (v := ?_) (f := 57) rfl (by kernel_rfl) ?_ (fun xq => ?_) ?_; rotate_left; (· rfl); (· ((simp only [List.map_toArray, List.map_cons, List.map_nil, Act.eval, Array.getD_eq_getD_getElem?, List.getElem?_toArray, List.getElem?_cons_succ, List.getElem?_cons_zero, Option.getD_some]); with_reducible apply retB; with_reducible exact (two_to s y z HZ.out _))); (try simp only [Act.put, List.setIfInBounds_toArray, List.set_cons_zero, List.set_cons_succ])))
  refine B_nil ?_ rfl ?_ ?_
  · kernel_rfl
  · rfl
  rintro _ ⟨⟨g1, d1⟩, rfl⟩
  simp only [fin, Act.put, List.setIfInBounds_toArray, List.set_cons_zero, List.set_cons_succ]
  intros
  refine last_one (k := 5) (by kernel_rfl) (by kernel_rfl) (by rfl) ?_ ?_
  · rfl
  intro K hK
  go_simp
  refine hK _ _ ?_
  clear hK K
  go_wp2
  refine bodyPost_ret (v := .agg #[.int .u8 (by8 z 0), .int .u8 (by8 z 1), .int .u8 (by8 z 2), .int .u8 (by8 z 3), .int .u8 (by8 z 4), .int .u8 (by8 z 5), .int .u8 (by8 z 6), .int .u8 (by8 z 7)]) (by simp [results, Try.results47, go_sem]) rfl ⟨rfl, by (repeat' (first | (with_reducible exact Below.refl _ _) | (with_reducible refine bplus ?_ _ _) | (with_reducible refine balloc ?_ _) | (with_reducible refine Below.drew ?_) | (with_reducible refine bdrewN ?_ _) | (with_reducible refine Below.setCell ?_ (by go_size) _)))⟩

set_option maxRecDepth 100000 in
set_option maxHeartbeats 1000000 in
theorem refStart_to (s : BitVec 64) (c : Nat) (hc : c < 1000) (z : BitVec 64) (hz : startF s c = z) (w : World) :
    Calls Try.prog 49 #[.agg #[.int .u8 (by8 s 0), .int .u8 (by8 s 1), .int .u8 (by8 s 2), .int .u8 (by8 s 3), .int .u8 (by8 s 4), .int .u8 (by8 s 5), .int .u8 (by8 s 6), .int .u8 (by8 s 7)], .int .i64 c] w fun e w' => e = .returned (.agg #[.int .u8 (by8 z 0), .int .u8 (by8 z 1), .int .u8 (by8 z 2), .int .u8 (by8 z 3), .int .u8 (by8 z 4), .int .u8 (by8 z 5), .int .u8 (by8 z 6), .int .u8 (by8 z 7)]) ∧ Below w.heap.size w w' := by
  obtain ⟨y, HY⟩ : ∃ y, Hid (BitVec.ofNat 64 c = y) := ⟨_, rfl⟩
  have HZ : Hid (twoF s y = z) := by show _ = _; rw [← HY.out]; exact hz
  have hc6 : c < 18446744073709551616 := by omega
  clear hz
  go_enter Try.func49, Try.ntmps49
  go_wp2
  refine wp_region_rt 5 1 (by kernel_rfl) (by kernel_rfl) (by kernel_rfl) (by kernel_rfl) ?_
  simp only [List.take_succ_cons, List.take_zero]
  repeat (first
    | (refine B_skip ?_ ?_; (· rfl); (try simp only [Act.put, List.setIfInBounds_toArray, List.set_cons_zero, List.set_cons_succ]))
    | (refine B_move rfl ?_ ?_; (· rfl); (try simp only [Act.eval, Act.put, Array.getD_eq_getD_getElem?, List.getElem?_toArray, List.getElem?_cons_succ, List.getElem?_cons_zero, Option.getD_some, List.setIfInBounds_toArray, List.set_cons_zero, List.set_cons_succ]))
    | (refine B_plain ?_ ?_; (· rfl); intro K hK; go_big_quiet_op; with_reducible refine hK _ ?_; clear hK K)
    | (refine B_callX (v := ?_) (f := 67) rfl (by kernel_rfl) ?_ (fun xq => ?_) ?_; rotate_left; (· rfl); (· ((simp only [List.map_toArray, List.map_cons, List.map_nil, Act.eval, Array.getD_eq_getD_getElem?, List.getElem?_toArray, List.getElem?_cons_succ, List.getElem?_cons_zero, Option.getD_some]); with_reducible apply retB; with_reducible exact (refFromNum_int c hc6 y HY.out _))); (try simp only [Act.put, List.setIfInBounds_toArray, List.set_cons_zero, List.set_cons_succ]))
    | (refine B_callX (v := ?_) (f := 54) rfl (by kernel_rfl) ?_ (fun xq => ?_) ?_; rotate_left; (· rfl); (· ((simp only [List.map_toArray, List.map_cons, List.map_nil, Act.eval, Array.getD_eq_getD_getElem?, List.getElem?_toArray, List.getElem?_cons_succ, List.getElem?_cons_zero, Option.getD_some]); with_reducible apply retB; with_reducible exact (refTwo_to s y z HZ.out _))); (try simp only [Act.put, List.setIfInBounds_toArray, List.set_cons_zero, List.set_cons_succ])))
  refine B_nil ?_ rfl ?_ ?_
  · kernel_rfl
  · rfl
  rintro _ ⟨⟨g1, d1⟩, rfl⟩
  simp only [fin, Act.put, List.setIfInBounds_toArray, List.set_cons_zero, List.set_cons_succ]
  intros
  refine last_one (k := 5) (by kernel_rfl) (by kernel_rfl) (by rfl) ?_ ?_
  · rfl
  intro K hK
  go_simp
  refine hK _ _ ?_
  clear hK K
  go_wp2
  refine bodyPost_ret (v := .agg #[.int .u8 (by8 z 0), .int .u8 (by8 z 1), .int .u8 (by8 z 2), .int .u8 (by8 z 3), .int .u8 (by8 z 4), .int .u8 (by8 z 5), .int .u8 (by8 z 6), .int .u8 (by8 z 7)]) (by simp [results, Try.results49, go_sem]) rfl ⟨rfl, by (repeat' (first | (with_reducible exact Below.refl _ _) | (with_reducible refine bplus ?_ _ _) | (with_reducible refine balloc ?_ _) | (with_reducible refine Below.drew ?_) | (with_reducible refine bdrewN ?_ _) | (with_reducible refine Below.setCell ?_ (by go_size) _)))⟩

/-- Bytes that are handed in, of which a digest is taken out. -/
theorem bsl_cells8 {w : World} {v : Value} {l : List UInt8} (h : BSl w v l) (c : Nat) (hc : 8 * c + 8 ≤ l.length) : ∃ b o cap, v = .slice (some ⟨b, o, none⟩) l.length cap ∧ l.length ≤ cap ∧ b < w.heap.size ∧ ∀ j, j < 8 → w.cell? ⟨b, o + c * 8 + j, none⟩ = some (.int .u8 (by8 (wordAt l c) j)) := by
  obtain ⟨ao, cap, rfl, h1, h2, h3⟩ := h.open_
  rcases h3 with rfl | ⟨b, o, rfl, hb, h3⟩
  · simp at hc
  · refine ⟨b, o, cap, rfl, h1, hb, fun j hj => ?_⟩
    rw [by8_wordAt _ _ _ hj, Nat.add_assoc, Nat.mul_comm c 8]
    exact h3 _ (by omega)

set_option maxRecDepth 100000 in
set_option maxHeartbeats 1000000 in
theorem piece_to (v : Value) (l : List UInt8) (c : Nat) (hc : 8 * c + 8 ≤ l.length) (hl : l.length ≤ 1000000) (z : BitVec 64) (hz : wordAt l c = z) (w : World) (hv : BSl w v l) :
    Calls Try.prog 52 #[v, .int .i64 c] w fun e w' => e = .returned (.agg #[.int .u8 (by8 z 0), .int .u8 (by8 z 1), .int .u8 (by8 z 2), .int .u8 (by8 z 3), .int .u8 (by8 z 4), .int .u8 (by8 z 5), .int .u8 (by8 z 6), .int .u8 (by8 z 7)]) ∧ Below w.heap.size w w' := by
  obtain ⟨b, o, cap, rfl, h1, hb, h3⟩ := bsl_cells8 hv c hc
  rw [hz] at h3
  have c0 := h3 0 (by omega)
  have c1 := h3 1 (by omega)
  have c2 := h3 2 (by omega)
  have c3 := h3 3 (by omega)
  have c4 := h3 4 (by omega)
  have c5 := h3 5 (by omega)
  have c6 := h3 6 (by omega)
  have c7 := h3 7 (by omega)
  rw [Nat.add_zero] at c0
  have hsl := fun W => Lib.run_slice_window (P := Try.prog) W 28 5 Try.underlying28 size_u8 b o l.length cap (c * 8) ((c + 1) * 8) (by omega) (by omega)
  have e8 : (c + 1) * 8 - c * 8 = 8 := by omega
  have h8 : ((8 : Nat) : Int) = 8 := rfl
  have h11 : ((1 : Nat) : Int) = 1 := rfl
  simp only [e8, Int.natCast_mul, Int.natCast_add, h8, h11] at hsl
  have hat := fun W => run_arrayAt (P := Try.prog) W 24 5 8 (some ⟨b, o + c * 8, none⟩) 8 (cap - c * 8) Try.underlying24 (by omega)
  clear hv h3 hz e8 h8 h11
  go_enter Try.func52, Try.ntmps52
  go_wp2
  refine bodyPost_ret (v := .agg #[.int .u8 (by8 z 0), .int .u8 (by8 z 1), .int .u8 (by8 z 2), .int .u8 (by8 z 3), .int .u8 (by8 z 4), .int .u8 (by8 z 5), .int .u8 (by8 z 6), .int .u8 (by8 z 7)]) (by simp [results, Try.results52, go_sem]) rfl ⟨rfl, by (repeat' (first | (with_reducible exact Below.refl _ _) | (with_reducible refine bplus ?_ _ _) | (with_reducible refine balloc ?_ _) | (with_reducible refine Below.drew ?_) | (with_reducible refine bdrewN ?_ _) | (with_reducible refine Below.setCell ?_ (by go_size) _)))⟩

set_option maxRecDepth 100000 in
set_option maxHeartbeats 1000000 in
theorem public1_to (s : BitVec 64) (b c : Nat) (hc : c < 18) (z : BitVec 64) (hz : chainF (startF s c) 15 = z) (w : World) (hb : HasBlk w b 24 #[.int .u8 (by8 s 0), .int .u8 (by8 s 1), .int .u8 (by8 s 2), .int .u8 (by8 s 3), .int .u8 (by8 s 4), .int .u8 (by8 s 5), .int .u8 (by8 s 6), .int .u8 (by8 s 7)]) :
    Calls Try.prog 46 #[.int .i64 c, .pointer (some ⟨b, 0, none⟩)] w fun e w' => e = .returned (.agg #[.int .u8 (by8 z 0), .int .u8 (by8 z 1), .int .u8 (by8 z 2), .int .u8 (by8 z 3), .int .u8 (by8 z 4), .int .u8 (by8 z 5), .int .u8 (by8 z 6), .int .u8 (by8 z 7)]) ∧ Below w.heap.size w w' := by
  obtain ⟨y, HY⟩ : ∃ y, Hid (startF s c = y) := ⟨_, rfl⟩
  have HZ : Hid (chainF y 15 = z) := by show _ = _; rw [← HY.out]; exact hz
  have cb := hb.cell
  have lb := hb.lt
  have hc1 : c < 1000 := by omega
  clear hz hb
  go_enter Try.func46, Try.ntmps46
  go_wp2_with (first
    | (go_at_call 47; refine (start_to s c hc1 y HY.out _).mono ?_; rintro e w1 ⟨rfl, hb1⟩; obtain ⟨g1, d1, rfl⟩ := plus_of_below hb1; clear hb1)
    | (go_at_call 33; refine (chain_int y z 15 15 rfl (by omega) HZ.out _).mono ?_; rintro e w2 ⟨rfl, hb2⟩; obtain ⟨g2, d2, rfl⟩ := plus_of_below hb2; clear hb2))
  refine bodyPost_ret (v := .agg #[.int .u8 (by8 z 0), .int .u8 (by8 z 1), .int .u8 (by8 z 2), .int .u8 (by8 z 3), .int .u8 (by8 z 4), .int .u8 (by8 z 5), .int .u8 (by8 z 6), .int .u8 (by8 z 7)]) (by simp [results, Try.results46, go_sem]) rfl ⟨rfl, by (repeat' (first | (with_reducible exact Below.refl _ _) | (with_reducible refine bplus ?_ _ _) | (with_reducible refine balloc ?_ _) | (with_reducible refine Below.drew ?_) | (with_reducible refine bdrewN ?_ _) | (with_reducible refine Below.setCell ?_ (by go_size) _)))⟩

set_option maxRecDepth 100000 in
set_option maxHeartbeats 1000000 in
theorem told1_to (m : BitVec 64) (l : List UInt8) (v : Value) (bs bd c : Nat) (hc : c < 18) (hl : l.length = 144) (z : BitVec 64) (hz : chainF (wordAt l c) (15 - (dgt m c).toNat) = z) (w : World) (hs : HasBlk w bs 28 #[v]) (hd : HasBlk w bd 31 (dgA m)) (hv : BSl w v l) :
    Calls Try.prog 51 #[.int .i64 c, .pointer (some ⟨bs, 0, none⟩), .pointer (some ⟨bd, 0, none⟩)] w fun e w' => e = .returned (.agg #[.int .u8 (by8 z 0), .int .u8 (by8 z 1), .int .u8 (by8 z 2), .int .u8 (by8 z 3), .int .u8 (by8 z 4), .int .u8 (by8 z 5), .int .u8 (by8 z 6), .int .u8 (by8 z 7)]) ∧ Below w.heap.size w w' := by
  obtain ⟨y, HY⟩ : ∃ y, Hid (wordAt l c = y) := ⟨_, rfl⟩
  have HZ : Hid (chainF y (15 - (dgt m c).toNat) = z) := by show _ = _; rw [← HY.out]; exact hz
  have cs : w.cell? ⟨bs, 0, none⟩ = some v := by rw [hs.cell]; rfl
  have cd : w.cell? ⟨bd, c, none⟩ = some (.int .i64 (dgt m c)) := by rw [hd.cell, dgA_get m c hc]
  have ls := hs.lt
  have ld := hd.lt
  have bd := dgt_bd m c
  have HV := Lib.hid hv
  have HK : Hid (15 - dgt m c = ((15 - (dgt m c).toNat : Nat) : Int)) := by show _ = _; omega
  have h8 : Hid (8 * c + 8 ≤ l.length) := by show _ ≤ _; omega
  have h9 : Hid (l.length ≤ 1000000) := by show _ ≤ _; omega
  have h10 : Hid (15 - (dgt m c).toNat ≤ 1048576) := by show _ ≤ _; omega
  clear hz hs hd hv hl
  go_enter Try.func51, Try.ntmps51
  go_wp2
  refine wp_region_rt 8 1 (by kernel_rfl) (by kernel_rfl) (by kernel_rfl) (by kernel_rfl) ?_
  simp only [List.take_succ_cons, List.take_zero]
  repeat (first
    | (refine B_skip ?_ ?_; (· rfl); (try simp only [Act.put, List.setIfInBounds_toArray, List.set_cons_zero, List.set_cons_succ]))
    | (refine B_move rfl ?_ ?_; (· rfl); (try simp only [Act.eval, Act.put, Array.getD_eq_getD_getElem?, List.getElem?_toArray, List.getElem?_cons_succ, List.getElem?_cons_zero, Option.getD_some, List.setIfInBounds_toArray, List.set_cons_zero, List.set_cons_succ]))
    | (refine B_plain ?_ ?_; (· rfl); intro K hK; go_big_quiet_op; with_reducible refine hK _ ?_; clear hK K)
    | (refine B_callX (v := ?_) (f := 52) rfl (by kernel_rfl) ?_ (fun xq => ?_) ?_; rotate_left; (· rfl); (· ((simp only [List.map_toArray, List.map_cons, List.map_nil, Act.eval, Array.getD_eq_getD_getElem?, List.getElem?_toArray, List.getElem?_cons_succ, List.getElem?_cons_zero, Option.getD_some]); with_reducible apply retB; with_reducible exact (piece_to v l c h8.out h9.out y HY.out _ ((HV.out.alloc _).plus _ _)))); (try simp only [Act.put, List.setIfInBounds_toArray, List.set_cons_zero, List.set_cons_succ]))
    | (refine B_callX (v := ?_) (f := 33) rfl (by kernel_rfl) ?_ (fun xq => ?_) ?_; rotate_left; (· rfl); (· ((simp only [List.map_toArray, List.map_cons, List.map_nil, Act.eval, Array.getD_eq_getD_getElem?, List.getElem?_toArray, List.getElem?_cons_succ, List.getElem?_cons_zero, Option.getD_some]); with_reducible apply retB; with_reducible exact (chain_int y z _ _ HK.out h10.out HZ.out _))); (try simp only [Act.put, List.setIfInBounds_toArray, List.set_cons_zero, List.set_cons_succ])))
  refine B_nil ?_ rfl ?_ ?_
  · kernel_rfl
  · rfl
  rintro _ ⟨⟨g1, d1⟩, rfl⟩
  simp only [fin, Act.put, List.setIfInBounds_toArray, List.set_cons_zero, List.set_cons_succ]
  intros
  refine last_one (k := 8) (by kernel_rfl) (by kernel_rfl) (by rfl) ?_ ?_
  · rfl
  intro K hK
  go_simp
  refine hK _ _ ?_
  clear hK K
  go_wp2
  refine bodyPost_ret (v := .agg #[.int .u8 (by8 z 0), .int .u8 (by8 z 1), .int .u8 (by8 z 2), .int .u8 (by8 z 3), .int .u8 (by8 z 4), .int .u8 (by8 z 5), .int .u8 (by8 z 6), .int .u8 (by8 z 7)]) (by simp [results, Try.results51, go_sem]) rfl ⟨rfl, by (repeat' (first | (with_reducible exact Below.refl _ _) | (with_reducible refine bplus ?_ _ _) | (with_reducible refine balloc ?_ _) | (with_reducible refine Below.drew ?_) | (with_reducible refine bdrewN ?_ _) | (with_reducible refine Below.setCell ?_ (by go_size) _)))⟩

end Go.Proofs.Ythdcfdfpfagamaa
