/- hash.Writer: Same and Clone. -/
import Derived.Test.YtmfogedagepcgaaWw
import Derived.Test.YtmfogedagepcgaaSm
import Derived.Lib.LazyBuf
namespace Go.Proofs.Ytmfogedagepcgaa
set_option linter.unusedSimpArgs false
set_option linter.unusedVariables false
open Go.RowKit

set_option maxRecDepth 100000 in
set_option maxHeartbeats 1000000 in
theorem equal_any (u v : Value) (l r : List UInt8) (b : Bool) (hr : (l == r) = b) (w : World) (hu : BSl w u l) (hv : BSl w v r) :
    Calls Try.prog 80 #[u, v] w fun e w' => e = .returned (.bool b) ∧ w' = w := by
  have e1 : (convert 60 9 u).run Try.prog w = .ok (.string ⟨l.toArray⟩) w := run_str w _ _ _ u l Try.underlying60 Try.underlying5 Try.underlying9 hu
  have e2 : (convert 60 9 v).run Try.prog w = .ok (.string ⟨r.toArray⟩) w := run_str w _ _ _ v r Try.underlying60 Try.underlying5 Try.underlying9 hv
  have hb := (str_beq l r).trans hr
  go_enter Try.func80, Try.ntmps80
  go_wp2
  go_ret
  exact ⟨rfl, rfl⟩

/-- What bytes.Clone answers: a row of its own, behind the first blocks. -/
def Clo (base : Nat) (l : List UInt8) : Pred := fun u W => ∃ ao cap B, u = .slice ao l.length cap ∧ Row 5 1 (.slice ao l.length cap) l.length (bcs l) B ∧ ∀ x ∈ B, base ≤ x.no ∧ W.heap[x.no]? = some (.cells x.cs x.ty (0, 0))
theorem stays_clo (base : Nat) (l : List UInt8) : Stays (Clo base l) := fun v w w' ⟨x, hx⟩ ⟨ao, cap, B, h1, h2, h3⟩ => by
  refine ⟨ao, cap, B, h1, h2, fun y hy => ?_⟩
  obtain ⟨h4, h5⟩ := h3 y hy
  refine ⟨h4, ?_⟩
  rw [hx, heap_plus _ _ _ _ (Array.getElem?_eq_some_iff.1 h5).1]
  exact h5

set_option maxRecDepth 100000 in
set_option maxHeartbeats 1000000 in
theorem bclone_any (ao : Option Addr) (cap : Nat) (l : List UInt8) (hl : l.length ≤ 1000000) (w : World) (hv : BSl w (.slice ao l.length cap) l) :
    Calls Try.prog 81 #[.slice ao l.length cap] w fun e w' => ∃ u, e = .returned u ∧ Below w.heap.size w w' ∧ Clo w.heap.size l u w' := by
  have e0 := Go.run_eql_slice_nil (P := Try.prog) w 60 5 ao l.length cap Try.underlying60
  cases ao with
  | none =>
    obtain ⟨h1, h2⟩ := hv.cells.2.1 rfl
    obtain rfl : l = [] := List.eq_nil_of_length_eq_zero h1
    subst h2
    simp only [List.length_nil] at e0
    go_enter Try.func81, Try.ntmps81
    go_wp2
    go_ret
    exact ⟨_, rfl, Below.refl _ _, none, 0, [], rfl, .void, by simp⟩
  | some ad =>
    have HV := Lib.hid (hv.alloc (.cells #[] 5))
    have HM := Lib.hid (show Mem (w.alloc (.cells #[] 5)) w ([⟨w.heap.size, 5, #[]⟩] ++ []) from (Mem.start w).key #[] 5 w.heap.size rfl)
    have HN := Lib.hid (show New w [⟨w.heap.size, 5, #[]⟩] from New.cons (Nat.le_refl _) (New.nil _))
    have HR := Lib.hid (Row.empty 5 1 w.heap.size)
    have HC := Lib.hid hv.cells.2.1
    clear hv
    go_enter Try.func81, Try.ntmps81
    go_wp2_with (at_builtin; refine wpList_append_row rfl (.tmp 5) (.tmp 6) 60 rfl elt_u8 HM.out HN.out _ _ _ (by rfl) HR.out _ _ _ (bcs l) (by rfl) (by rw [bcs_len]; simp) (by simp) HV.out.cells.2.2 (bcs_one l) (by unfold maxLen; omega) (by omega) l.length (by simp) (bcs l) (by simp) (fun ao' cap' B' w' R' M' hB' => ?_); (have HR1 := Lib.hid R'); (have HM1 := Lib.hid M'); (have HB1 := Lib.hid hB'); clear R' M' hB')
    go_ret
    exact ⟨_, rfl, HM1.out.below (by rw [List.append_nil]; exact HB1.out), ao', cap', B', rfl, HR1.out, fun x hx => ⟨HB1.out x hx, HM1.out.has x (by simpa using hx)⟩⟩

/-! ### Same -/
set_option maxRecDepth 100000 in
theorem wsame_nn (w : World) :
    Calls Try.prog 51 #[.pointer none, .pointer none] w fun e w' => e = .returned (.bool true) ∧ Below w.heap.size w w' := by
  go_enter Try.func51, Try.ntmps51
  go_wp2
  go_ret
  exact ⟨rfl, by (repeat' (first | (with_reducible exact Below.refl _ _) | (with_reducible refine bplus ?_ _ _) | (with_reducible refine balloc ?_ _) | (with_reducible refine Below.drew ?_) | (with_reducible refine bdrewN ?_ _) | (with_reducible refine Below.setCell ?_ (by go_size) _)))⟩
set_option maxRecDepth 100000 in
theorem wsame_np (b : Nat) (w : World) :
    Calls Try.prog 51 #[.pointer none, .pointer (some ⟨b, 0, none⟩)] w fun e w' => e = .returned (.bool false) ∧ Below w.heap.size w w' := by
  go_enter Try.func51, Try.ntmps51
  go_wp2
  go_ret
  exact ⟨rfl, by (repeat' (first | (with_reducible exact Below.refl _ _) | (with_reducible refine bplus ?_ _ _) | (with_reducible refine balloc ?_ _) | (with_reducible refine Below.drew ?_) | (with_reducible refine bdrewN ?_ _) | (with_reducible refine Below.setCell ?_ (by go_size) _)))⟩
set_option maxRecDepth 100000 in
theorem wsame_pn (b : Nat) (w : World) :
    Calls Try.prog 51 #[.pointer (some ⟨b, 0, none⟩), .pointer none] w fun e w' => e = .returned (.bool false) ∧ Below w.heap.size w w' := by
  go_enter Try.func51, Try.ntmps51
  go_wp2
  go_ret
  exact ⟨rfl, by (repeat' (first | (with_reducible exact Below.refl _ _) | (with_reducible refine bplus ?_ _ _) | (with_reducible refine balloc ?_ _) | (with_reducible refine Below.drew ?_) | (with_reducible refine bdrewN ?_ _) | (with_reducible refine Below.setCell ?_ (by go_size) _)))⟩

set_option maxRecDepth 100000 in
set_option maxHeartbeats 2000000 in
theorem wsame_to (b c : Nat) (u v : Value) (l r : List UInt8) (s t : St) (hs : stF l = s) (ht : stF r = t) (q : Bool) (hq : (l == r) = q) (hl : l.length ≤ 1000000) (hr : r.length ≤ 1000000) (w : World) (hb : HasBlk w b 119 (wcs u s)) (hc : HasBlk w c 119 (wcs v t)) (hu : BSl w u l) (hv : BSl w v r) :
    Calls Try.prog 51 #[.pointer (some ⟨b, 0, none⟩), .pointer (some ⟨c, 0, none⟩)] w fun e w' => e = .returned (.bool q) ∧ Below w.heap.size w w' := by
  have cb := hb.cell
  have lb := hb.lt
  have cc := hc.cell
  have lc := hc.lt
  obtain ⟨z1, HZ1⟩ : ∃ z, Hid (ofF l = z) := ⟨_, rfl⟩
  obtain ⟨z2, HZ2⟩ : ∃ z, Hid (ofF r = z) := ⟨_, rfl⟩
  have T1 := Lib.hid (fun g d => sum_to b u l (by omega) s hs z1 HZ1.out _ (hb.plus g d) (hu.plus g d))
  have T2 := Lib.hid (fun g d => sum_to c v r (by omega) t ht z2 HZ2.out _ (hc.plus g d) (hv.plus g d))
  have T3 := Lib.hid (fun g d => equal_any u v l r q hq _ (hu.plus g d) (hv.plus g d))
  obtain ⟨uo, ucap, rfl, -⟩ := hu.open_
  obtain ⟨vo, vcap, rfl, -⟩ := hv.open_
  have hz : z1 ≠ z2 → q = false := by
    intro hne
    rw [← hq]
    have : l ≠ r := fun h => hne (by rw [← HZ1.out, ← HZ2.out, h])
    simpa using this
  clear hb hc hu hv hs ht hq
  by_cases h : z1 = z2
  · subst h
    clear hz
    go_enter Try.func51, Try.ntmps51
    go_wp2
    refine wp_region_rq (by kernel_rfl) (by kernel_rfl) (by kernel_rfl) ?_
    repeat (first
      | (refine B_skip ?_ ?_; (· rfl); (try simp only [Act.put, List.setIfInBounds_toArray, List.set_cons_zero, List.set_cons_succ]))
      | (refine B_move rfl ?_ ?_; (· rfl); (try simp only [Act.eval, Act.put, Array.getD_eq_getD_getElem?, List.getElem?_toArray, List.getElem?_cons_succ, List.getElem?_cons_zero, Option.getD_some, List.setIfInBounds_toArray, List.set_cons_zero, List.set_cons_succ]))
      | (refine B_plain ?_ ?_; (· rfl); intro K hK; go_big_quiet_op; with_reducible refine hK _ ?_; clear hK K)
      | (refine B_callX (v := ?_) (f := 50) rfl (by kernel_rfl) ?_ (fun xq => ?_) ?_; rotate_left; (· rfl); (· ((simp only [List.map_toArray, List.map_cons, List.map_nil, Act.eval, Array.getD_eq_getD_getElem?, List.getElem?_toArray, List.getElem?_cons_succ, List.getElem?_cons_zero, Option.getD_some]); with_reducible apply retB; with_reducible exact (T1.out _ _))); (try simp only [Act.put, List.setIfInBounds_toArray, List.set_cons_zero, List.set_cons_succ]))
      | (refine B_callX (v := ?_) (f := 50) rfl (by kernel_rfl) ?_ (fun xq => ?_) ?_; rotate_left; (· rfl); (· ((simp only [List.map_toArray, List.map_cons, List.map_nil, Act.eval, Array.getD_eq_getD_getElem?, List.getElem?_toArray, List.getElem?_cons_succ, List.getElem?_cons_zero, Option.getD_some]); with_reducible apply retB; with_reducible exact (T2.out _ _))); (try simp only [Act.put, List.setIfInBounds_toArray, List.set_cons_zero, List.set_cons_succ]))
      | (refine B_callX (v := ?_) (f := 80) rfl (by kernel_rfl) ?_ (fun xq => ?_) ?_; rotate_left; (· rfl); (· ((simp only [List.map_toArray, List.map_cons, List.map_nil, Act.eval, Array.getD_eq_getD_getElem?, List.getElem?_toArray, List.getElem?_cons_succ, List.getElem?_cons_zero, Option.getD_some]); with_reducible apply retB_same; with_reducible exact (T3.out _ _))); (try simp only [Act.put, List.setIfInBounds_toArray, List.set_cons_zero, List.set_cons_succ]))
      | (refine B_nilck rfl rfl ?_ ?_; (· rfl); (try simp only [Act.put, List.setIfInBounds_toArray, List.set_cons_zero, List.set_cons_succ])))
    refine B_nil ?_ rfl ?_ ?_
    · kernel_rfl
    · rfl
    rintro _ ⟨⟨g1, d1⟩, rfl⟩
    simp only [fin, Act.put, List.setIfInBounds_toArray, List.set_cons_zero, List.set_cons_succ]
    go_wp2
    go_ret
    exact ⟨rfl, by (repeat' (first | (with_reducible exact Below.refl _ _) | (with_reducible refine bplus ?_ _ _) | (with_reducible refine balloc ?_ _) | (with_reducible refine Below.drew ?_) | (with_reducible refine bdrewN ?_ _) | (with_reducible refine Below.setCell ?_ (by go_size) _)))⟩
  · have hzf : (z1 == z2) = false := by simpa using h
    obtain rfl := hz h
    clear hz
    go_enter Try.func51, Try.ntmps51
    go_wp2
    refine wp_region_rq (by kernel_rfl) (by kernel_rfl) (by kernel_rfl) ?_
    repeat (first
      | (refine B_skip ?_ ?_; (· rfl); (try simp only [Act.put, List.setIfInBounds_toArray, List.set_cons_zero, List.set_cons_succ]))
      | (refine B_move rfl ?_ ?_; (· rfl); (try simp only [Act.eval, Act.put, Array.getD_eq_getD_getElem?, List.getElem?_toArray, List.getElem?_cons_succ, List.getElem?_cons_zero, Option.getD_some, List.setIfInBounds_toArray, List.set_cons_zero, List.set_cons_succ]))
      | (refine B_plain ?_ ?_; (· rfl); intro K hK; go_big_quiet_op; with_reducible refine hK _ ?_; clear hK K)
      | (refine B_callX (v := ?_) (f := 50) rfl (by kernel_rfl) ?_ (fun xq => ?_) ?_; rotate_left; (· rfl); (· ((simp only [List.map_toArray, List.map_cons, List.map_nil, Act.eval, Array.getD_eq_getD_getElem?, List.getElem?_toArray, List.getElem?_cons_succ, List.getElem?_cons_zero, Option.getD_some]); with_reducible apply retB; with_reducible exact (T1.out _ _))); (try simp only [Act.put, List.setIfInBounds_toArray, List.set_cons_zero, List.set_cons_succ]))
      | (refine B_callX (v := ?_) (f := 50) rfl (by kernel_rfl) ?_ (fun xq => ?_) ?_; rotate_left; (· rfl); (· ((simp only [List.map_toArray, List.map_cons, List.map_nil, Act.eval, Array.getD_eq_getD_getElem?, List.getElem?_toArray, List.getElem?_cons_succ, List.getElem?_cons_zero, Option.getD_some]); with_reducible apply retB; with_reducible exact (T2.out _ _))); (try simp only [Act.put, List.setIfInBounds_toArray, List.set_cons_zero, List.set_cons_succ]))
      | (refine B_callX (v := ?_) (f := 80) rfl (by kernel_rfl) ?_ (fun xq => ?_) ?_; rotate_left; (· rfl); (· ((simp only [List.map_toArray, List.map_cons, List.map_nil, Act.eval, Array.getD_eq_getD_getElem?, List.getElem?_toArray, List.getElem?_cons_succ, List.getElem?_cons_zero, Option.getD_some]); with_reducible apply retB_same; with_reducible exact (T3.out _ _))); (try simp only [Act.put, List.setIfInBounds_toArray, List.set_cons_zero, List.set_cons_succ]))
      | (refine B_nilck rfl rfl ?_ ?_; (· rfl); (try simp only [Act.put, List.setIfInBounds_toArray, List.set_cons_zero, List.set_cons_succ])))
    refine B_nil ?_ rfl ?_ ?_
    · kernel_rfl
    · rfl
    rintro _ ⟨⟨g1, d1⟩, rfl⟩
    simp only [fin, Act.put, List.setIfInBounds_toArray, List.set_cons_zero, List.set_cons_succ]
    go_wp2
    go_ret
    exact ⟨rfl, by (repeat' (first | (with_reducible exact Below.refl _ _) | (with_reducible refine bplus ?_ _ _) | (with_reducible refine balloc ?_ _) | (with_reducible refine Below.drew ?_) | (with_reducible refine bdrewN ?_ _) | (with_reducible refine Below.setCell ?_ (by go_size) _)))⟩

/-! ### Clone -/
set_option maxRecDepth 100000 in
theorem wclone_nil (w : World) :
    Calls Try.prog 52 #[.pointer none] w fun e w' => e = .returned (.pointer none) ∧ Below w.heap.size w w' := by
  go_enter Try.func52, Try.ntmps52
  go_wp2
  go_ret
  exact ⟨rfl, by (repeat' (first | (with_reducible exact Below.refl _ _) | (with_reducible refine bplus ?_ _ _) | (with_reducible refine balloc ?_ _) | (with_reducible refine Below.drew ?_) | (with_reducible refine bdrewN ?_ _) | (with_reducible refine Below.setCell ?_ (by go_size) _)))⟩

set_option maxRecDepth 100000 in
set_option maxHeartbeats 2000000 in
theorem wclone_to (p cap : Nat) (ao : Option Addr) (l : List UInt8) (s : St) (hl : l.length ≤ 1000000) (w : World) (hb : HasBlk w p 119 (wcs (.slice ao l.length cap) s)) (hu : BSl w (.slice ao l.length cap) l) :
    Calls Try.prog 52 #[.pointer (some ⟨p, 0, none⟩)] w fun e w' => ∃ p' ao' cap' B', e = .returned (.pointer (some ⟨p', 0, none⟩)) ∧ Below w.heap.size w w' ∧ Row 5 1 (.slice ao' l.length cap') l.length (bcs l) B' ∧ w.heap.size ≤ p' ∧ HasBlk w' p' 119 (wcs (.slice ao' l.length cap') s) ∧ ∀ x ∈ B', w.heap.size ≤ x.no ∧ x.no ≠ p' ∧ HasBlk w' x.no x.ty x.cs := by
  have cb := hb.cell
  have lb := hb.lt
  have T1 : Hid (∀ g d, Calls Try.prog 81 #[.slice ao l.length cap] (plus w g d) fun e w' => ∃ u, e = .returned u ∧ Below (plus w g d).heap.size (plus w g d) w' ∧ Clo w.heap.size l u w') := fun g d => by
    refine (bclone_any ao cap l hl _ (hu.plus g d)).mono ?_
    rintro e w' ⟨u, h1, h2, ao', cap', B', h3, h4, h5⟩
    exact ⟨u, h1, h2, ao', cap', B', h3, h4, fun x hx => ⟨Nat.le_trans (by simp) (h5 x hx).1, (h5 x hx).2⟩⟩
  clear hb hu
  go_enter Try.func52, Try.ntmps52
  go_wp2
  refine wp_region_rc 9 3 (by kernel_rfl) (by kernel_rfl) (by kernel_rfl) (by kernel_rfl) ?_
  simp only [List.take_succ_cons, List.take_zero]
  repeat (first
    | (refine B_skip ?_ ?_; (· rfl); (try simp only [Act.put, List.setIfInBounds_toArray, List.set_cons_zero, List.set_cons_succ]))
    | (refine B_move rfl ?_ ?_; (· rfl); (try simp only [Act.eval, Act.put, Array.getD_eq_getD_getElem?, List.getElem?_toArray, List.getElem?_cons_succ, List.getElem?_cons_zero, Option.getD_some, List.setIfInBounds_toArray, List.set_cons_zero, List.set_cons_succ]))
    | (refine B_plain ?_ ?_; (· rfl); intro K hK; go_big_quiet_op; with_reducible refine hK _ ?_; clear hK K)
    | (refine B_callR (Clo w.heap.size l) (stays_clo _ _) (f := 81) rfl rfl (by kernel_rfl) ?_ (fun xq => ?_) ?_; (· rfl); (· ((simp only [List.map_toArray, List.map_cons, List.map_nil, Act.eval, Array.getD_eq_getD_getElem?, List.getElem?_toArray, List.getElem?_cons_succ, List.getElem?_cons_zero, Option.getD_some]); (with_reducible apply retR); exact T1.out _ _)))
    | (refine B_nilck rfl rfl ?_ ?_; (· rfl); (try simp only [Act.put, List.setIfInBounds_toArray, List.set_cons_zero, List.set_cons_succ])))
  refine B_nil ?_ rfl ?_ ?_
  · kernel_rfl
  · rfl
  rintro _ ⟨⟨g1, d1⟩, rfl⟩
  simp only [fin, Act.put, List.setIfInBounds_toArray, List.set_cons_zero, List.set_cons_succ]
  rintro _ ⟨ao', cap', B', rfl, R', hx⟩
  have HR := Lib.hid R'
  have HXX := Lib.hid hx
  clear R' hx
  refine step_one (n := 2) (k := 9) (by kernel_rfl) (by rfl) (by rfl) ?_
  intro K hK
  go_simp
  refine hK _ _ ?_
  clear hK K
  refine step_one (n := 1) (k := 10) (by kernel_rfl) (by rfl) (by rfl) ?_
  intro K hK
  go_simp
  refine hK _ _ ?_
  clear hK K
  refine last_one (k := 11) (by kernel_rfl) (by kernel_rfl) (by rfl) ?_ ?_
  · rfl
  intro K hK
  go_simp
  refine hK _ _ ?_
  clear hK K
  go_wp2
  go_ret
  refine ⟨w.heap.size + g1.size, ao', cap', B', rfl, by (repeat' (first | (with_reducible exact Below.refl _ _) | (with_reducible refine bplus ?_ _ _) | (with_reducible refine balloc ?_ _) | (with_reducible refine Below.drew ?_) | (with_reducible refine bdrewN ?_ _) | (with_reducible refine Below.setCell ?_ (by go_size) _))), HR.out, by omega, HasBlk.new _ _ _ _ (by simp), fun x hx => ?_⟩
  obtain ⟨h1, h2⟩ := HXX.out x hx
  have h3 := (Array.getElem?_eq_some_iff.1 h2).1
  rw [size_plus] at h3
  exact ⟨h1, by omega, HasBlk.alloc h2 _⟩

/-! ### In memory told block by block -/
theorem Mem.found2 {w w0 W : World} {L X : List Blk} (M : Mem W w0 L) (hx : Below W.heap.size W w) (hb : ∀ x ∈ X, W.heap.size ≤ x.no ∧ HasBlk w x.no x.ty x.cs) (hp : X.Pairwise (fun x y => x.no ≠ y.no)) : Mem w w0 (X ++ L) := by
  have M' := M.of_below hx
  refine ⟨M'.os, M'.tape, M'.output, M'.size, fun k hk hy => M'.old k hk fun y hm => hy y (List.mem_append_right _ hm), ?_, ?_⟩
  · refine List.pairwise_append.2 ⟨hp, M.apart, fun x hx y hy => ?_⟩
    have := M.lt hy
    have := (hb x hx).1
    omega
  · intro y hy
    rcases List.mem_append.1 hy with hy | hy
    · exact (hb y hy).2
    · exact M'.has y hy
theorem Row.pair {e : TypeId} {sz n : Nat} {v : Value} {xs : List Value} {B : List Blk} (h : Row e sz v n xs B) : B.Pairwise (fun x y => x.no ≠ y.no) := by
  cases h <;> simp
theorem Row.bslH {e : TypeId} {n : Nat} {v : Value} {l : List UInt8} {B : List Blk} {w : World} (h : Row e 1 v n (bcs l) B) (hb : ∀ x ∈ B, HasBlk w x.no x.ty x.cs) : BSl w v l :=
  h.bsl (L := []) (w0 := w) ⟨rfl, rfl, rfl, Nat.le_refl _, fun _ _ _ => rfl, by simpa using h.pair, fun x hx => hb x (by simpa using hx)⟩

theorem wclone_mem (p cap : Nat) (ao : Option Addr) (l : List UInt8) (s : St) (hl : l.length ≤ 1000000) (w w0 : World) (L : List Blk) (M : Mem w w0 L) (hb : HasBlk w p 119 (wcs (.slice ao l.length cap) s)) (hu : BSl w (.slice ao l.length cap) l) :
    Calls Try.prog 52 #[.pointer (some ⟨p, 0, none⟩)] w fun e w' => ∃ p' ao' cap' B', e = .returned (.pointer (some ⟨p', 0, none⟩)) ∧ Row 5 1 (.slice ao' l.length cap') l.length (bcs l) B' ∧ w0.heap.size ≤ p' ∧ New w0 B' ∧ Mem w' w0 (B' ++ ⟨p', 119, wcs (.slice ao' l.length cap') s⟩ :: L) := by
  refine (wclone_to p cap ao l s hl w hb hu).mono ?_
  rintro e w' ⟨p', ao', cap', B', rfl, hB, R, hp, hk, hx⟩
  have hs := M.size
  refine ⟨p', ao', cap', B', rfl, R, by omega, fun x h => by have := (hx x h).1; omega, ?_⟩
  have := M.found2 (X := B' ++ [⟨p', 119, wcs (.slice ao' l.length cap') s⟩]) hB (fun x h => by
    rcases List.mem_append.1 h with h | h
    · exact ⟨(hx x h).1, (hx x h).2.2⟩
    · obtain rfl := List.mem_singleton.1 h
      exact ⟨hp, hk⟩) (List.pairwise_append.2 ⟨R.pair, by simp, fun x h y hy => by
        obtain rfl := List.mem_singleton.1 hy
        exact (hx x h).2.1⟩)
  simpa using this

/-! ### append under a guard -/
theorem wpList_append_want {P : Program} {w w0 : World} {ops : Array Oper} {rest : List Oper} {o : Oper} {a : Act} {Q : Exit → Act → World → Prop} (hw : Region.wanted o (yielded ops a.tmps) = true) (s x : Operand) (t : TypeId) (ho : o.op = .call { callee := .builtin .append, args := #[s, x], argTypes := #[t, t] })
    {e : TypeId} {sz bytes : Nat} (E : Elt P t e sz bytes) {B L : List Blk} (M : Mem w w0 (B ++ L)) (hB : New w0 B)
    (v : Value) (n : Nat) (xs : List Value) (hs : a.eval s = v) (hR : Row e sz v n xs B)
    (ao : Option Addr) (m c : Nat) (news : List Value) (hx : a.eval x = .slice ao m c) (hl : news.length = m * sz) (hnone : ao = none → m = 0 ∧ c = 0)
    (hc : ∀ ad, ao = some ad → ∀ j u, news[j]? = some u → w.cell? (ad.add j) = some u) (h1 : ∀ u ∈ news, u.oneCell' = true)
    (h63 : n + m ≤ maxLen) (hbytes : (n + m) * bytes ≤ 140737488355328)
    (N : Nat) (hN : n + m = N) (ys : List Value) (hys : xs ++ news = ys)
    (h : ∀ ao' cap' B' w', Row e sz (.slice ao' N cap') N ys B' → Mem w' w0 (B' ++ L) → New w0 B' → wpList P ops Q rest (a.put o.dst (.slice ao' N cap')) w') :
    wpList P ops Q (o :: rest) a w :=
  wpList_step fun K hK => by
    rw [if_pos hw]
    exact wp_append_row s x t ho E M hB v n xs hs hR ao m c news hx hl hnone hc h1 h63 hbytes N hN ys hys fun ao' cap' B' w' h2 h3 h4 => hK _ _ (h ao' cap' B' w' h2 h3 h4)

/-- A walk stands still before the next operation until this is unfolded. -/
def Stop (p : Prop) : Prop := p
theorem Stop.go {p : Prop} (h : Stop p) : p := h

end Go.Proofs.Ytmfogedagepcgaa
