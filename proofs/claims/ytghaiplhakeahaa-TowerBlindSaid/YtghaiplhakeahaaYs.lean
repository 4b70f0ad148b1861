/- baizeref51: the document's tower: its rows; contracts of At, Size, See. -/
import Derived.Test.YtghaiplhakeahaaYr
namespace Go.Proofs.Ytghaiplhakeahaa
set_option linter.unusedSimpArgs false
set_option linter.unusedVariables false
open Go.RowKit Go.WideMaps Go.ChangeMaps Go.Maps

/-- The cells of an appointment, as the document has it. -/
noncomputable def rcs (a : AP) : List Value := [.int .u8 (by8 a.h 0), .int .u8 (by8 a.h 1), .int .u8 (by8 a.h 2), .int .u8 (by8 a.h 3), .int .u8 (by8 a.h 4), .int .u8 (by8 a.h 5), .int .u8 (by8 a.h 6), .int .u8 (by8 a.h 7), .int .i64 a.n, .string ⟨a.l.toArray⟩]
noncomputable def rall (al : List AP) : List Value := al.flatMap rcs
theorem rall_app (al bl : List AP) : rall (al ++ bl) = rall al ++ rall bl := by simp [rall]
theorem rall_one (a : AP) : rall [a] = rcs a := by simp [rall]
theorem rall_len (al : List AP) : (rall al).length = al.length * 10 := by
  induction al with
  | nil => rfl
  | cons a al ih =>
    show (rcs a ++ rall al).length = _
    rw [List.length_append, ih, List.length_cons]
    simp [rcs]; omega
theorem rall_get (al : List AP) : ∀ (i j : Nat), i < al.length → j < 10 → (rall al)[i * 10 + j]? = (rcs (al.getD i default))[j]? := by
  induction al with
  | nil => intro i j hi; simp at hi
  | cons a al ih =>
    intro i j hi hj
    have h0 : (rcs a).length = 10 := rfl
    cases i with
    | zero =>
      show (rcs a ++ rall al)[_]? = _
      rw [List.getElem?_append_left (by rw [h0]; omega)]
      simp
    | succ i =>
      show (rcs a ++ rall al)[_]? = _
      rw [List.getElem?_append_right (by rw [h0]; omega), h0, show (i + 1) * 10 + j - 10 = i * 10 + j by omega, ih i j (by simpa using hi) hj]
      simp
theorem rall_mem (al : List AP) : ∀ u ∈ rall al, u.oneCell' = true := by
  intro u hu
  simp only [rall, List.mem_flatMap] at hu
  obtain ⟨a, -, hu⟩ := hu
  simp only [rcs, List.mem_cons, List.not_mem_nil, or_false] at hu
  rcases hu with rfl | rfl | rfl | rfl | rfl | rfl | rfl | rfl | rfl | rfl <;> rfl
theorem rcs_one (a : AP) : ∀ u ∈ rcs a, u.oneCell' = true := by rw [← rall_one]; exact rall_mem [a]
theorem elt_rap : Elt Try.prog 70 34 10 32 := by
  have h : (Try.prog.info? 34).map (fun i => (i.zero, i.size, i.bytes)) = some (some (.agg #[.int .u8 0, .int .u8 0, .int .u8 0, .int .u8 0, .int .u8 0, .int .u8 0, .int .u8 0, .int .u8 0, .int .i64 0, .string ByteArray.empty]), 10, 32) := by kernel_rfl
  exact elt_mk _ Try.underlying70 h rfl (by decide)
/-- A row of the document's, wherever it lies. -/
def RSl (w : World) (v : Value) (al : List AP) : Prop := Rws w v al.length 10 (fun i => rcs (al.getD i default))
theorem RSl.below {w w' : World} {v : Value} {al : List AP} (h : RSl w v al) (hb : Below w.heap.size w w') : RSl w' v al := by
  obtain ⟨ao, cap, rfl, h1, h2⟩ := h
  refine ⟨ao, cap, rfl, h1, h2.imp id ?_⟩
  rintro ⟨r, o, rfl, hlt, hc⟩
  refine ⟨r, o, rfl, Nat.lt_of_lt_of_le hlt hb.size, fun i hi j u hj => ?_⟩
  rw [← hc i hi j u hj]
  exact World.cell?_of_block (a := ⟨r, _, none⟩) (hb.block _ hlt)
theorem RSl.plus {w : World} {v : Value} {al : List AP} (h : RSl w v al) (g : Array Obj) (d : Nat) : RSl (Go.Proofs.Ytghaiplhakeahaa.plus w g d) v al := h.below (bplus (Below.refl _ _) g d)
theorem RSl.alloc {w : World} {v : Value} {al : List AP} (h : RSl w v al) (o : Obj) : RSl (w.alloc o) v al := h.below (balloc (Below.refl _ _) o)
theorem RSl.nil (w : World) : RSl w (.slice none 0 0) [] := ⟨none, 0, rfl, ⟨Nat.le_refl _, fun _ => ⟨rfl, rfl⟩⟩, .inl rfl⟩
theorem RSl.slice {w : World} {v : Value} {al : List AP} (h : RSl w v al) : ∃ ao cap, v = .slice ao al.length cap ∧ al.length ≤ cap ∧ (ao = none → al.length = 0 ∧ cap = 0) := by
  obtain ⟨ao, cap, rfl, h1, -⟩ := h; exact ⟨ao, cap, rfl, h1.1, h1.2⟩
theorem RSl.elem {w : World} {ao : Option Addr} {cap : Nat} {al : List AP} (h : RSl w (.slice ao al.length cap) al) {i : Nat} (hi : i < al.length) : ∃ r o, ao = some ⟨r, o, none⟩ ∧ r < w.heap.size ∧ ∀ j u, (rcs (al.getD i default))[j]? = some u → w.cell? ⟨r, o + i * 10 + j, none⟩ = some u := by
  obtain ⟨ao', cap', e, h1, h2⟩ := h
  cases e
  rcases h2 with h2 | ⟨r, o, rfl, hlt, hc⟩
  · omega
  · exact ⟨r, o, rfl, hlt, fun j u hj => by rw [Nat.add_assoc]; exact hc i hi j u hj⟩
/-- Its cells, as those of one slice. -/
theorem RSl.cells {w : World} {ao : Option Addr} {cap : Nat} {al : List AP} (h : RSl w (.slice ao al.length cap) al) : ∀ ad, ao = some ad → ∀ j u, (rall al)[j]? = some u → w.cell? (ad.add j) = some u := by
  intro ad had k u hk
  have hlt := (List.getElem?_eq_some_iff.1 hk).1
  rw [rall_len] at hlt
  obtain ⟨r, o, e, -, hc⟩ := h.elem (i := k / 10) (by omega)
  rw [had] at e
  cases e
  have hg := rall_get al (k / 10) (k % 10) (by omega) (by omega)
  rw [show k / 10 * 10 + k % 10 = k by omega, hk] at hg
  have := hc (k % 10) u hg.symm
  rw [show o + k / 10 * 10 + k % 10 = o + k by omega] at this
  rw [← this]
  congr 1
  unfold Addr.add; split <;> simp_all
theorem Row.rsl {e : TypeId} {v : Value} {al : List AP} {B L : List Blk} {w w0 : World} (h : Row e 10 v al.length (rall al) B) (M : Mem w w0 (B ++ L)) : RSl w v al := by
  have hc := h.cells M
  generalize hy : rall al = ys at h
  obtain ⟨N, hN⟩ : ∃ N, al.length = N := ⟨_, rfl⟩
  rw [hN] at h
  cases h with
  | void =>
    have : al = [] := List.eq_nil_of_length_eq_zero hN
    subst this
    exact RSl.nil w
  | one r n cap cur h1 h2 h3 =>
    subst hN
    refine ⟨_, cap, rfl, ⟨h1, fun h => by cases h⟩, .inr ⟨r, 0, rfl, M.lt (x := ⟨r, e, cur⟩) (by simp), fun i hi j u hj => ?_⟩⟩
    have hj10 : j < 10 := (List.getElem?_eq_some_iff.1 hj).1
    have hg := rall_get al i j hi hj10
    rw [hj] at hg
    have h4 := hc _ _ rfl ⟨r, 0, none⟩ rfl (i * 10 + j) u hg
    rw [← h4]
    congr 1
    unfold Addr.add; split <;> simp_all

/-! ### At -/
def atF (al : List AP) (x : BitVec 64) : Int := match idx al x with | some i => (i : Int) | none => -1
theorem idx_first {al : List AP} {x : BitVec 64} {i : Nat} (hi : i < al.length) (hx : (al.getD i default).h = x) (hno : ∀ j, j < i → (al.getD j default).h ≠ x) : idx al x = some i := by
  unfold idx
  rw [List.findIdx?_eq_some_iff_getElem]
  refine ⟨hi, ?_, fun j hj => ?_⟩
  · rw [List.getD_eq_getElem?_getD, List.getElem?_eq_getElem hi] at hx
    simpa using hx
  · have := hno j hj
    rw [List.getD_eq_getElem?_getD, List.getElem?_eq_getElem (by omega)] at this
    simpa using this
theorem idx_nope {al : List AP} {x : BitVec 64} (hno : ∀ j, j < al.length → (al.getD j default).h ≠ x) : idx al x = none := by
  unfold idx
  rw [List.findIdx?_eq_none_iff]
  intro a ha
  obtain ⟨j, hj, rfl⟩ := List.getElem_of_mem ha
  have := hno j hj
  rw [List.getD_eq_getElem?_getD, List.getElem?_eq_getElem hj] at this
  simpa using this
set_option maxRecDepth 100000 in
set_option maxHeartbeats 2000000 in
theorem rat_to (room : Int) (v : Value) (al : List AP) (hn : al.length ≤ 1000000) (x : BitVec 64) (w : World) (hv : RSl w v al) (r : Int) (hr : atF al x = r) :
    Calls Try.prog 81 #[.agg #[.int .i64 room, v], .agg #[.int .u8 (by8 x 0), .int .u8 (by8 x 1), .int .u8 (by8 x 2), .int .u8 (by8 x 3), .int .u8 (by8 x 4), .int .u8 (by8 x 5), .int .u8 (by8 x 6), .int .u8 (by8 x 7)]] w fun e w' => e = .returned (.int .i64 r) ∧ Below w.heap.size w w' := by
  obtain ⟨ao, cap, rfl, hcap, -⟩ := hv.slice
  have HV := Lib.hid hv
  have HRR := Lib.hid hr
  have HO := Lib.hid (((Ow.start w).key #[.int .i64 room, .slice ao al.length cap] 72 w.heap.size rfl).key #[.int .u8 (by8 x 0), .int .u8 (by8 x 1), .int .u8 (by8 x 2), .int .u8 (by8 x 3), .int .u8 (by8 x 4), .int .u8 (by8 x 5), .int .u8 (by8 x 6), .int .u8 (by8 x 7)] 22 (w.heap.size + 1) (by simp))
  clear hv hr
  go_enter Try.func81, Try.ntmps81
  go_wp2_with fail
  go_loopw [5] (fun vi wr => ∃ i : Nat, vi = .int .i64 i ∧ i ≤ al.length ∧ (∀ j, j < i → (al.getD j default).h ≠ x) ∧ Ow wr w [⟨w.heap.size + 1, 22, #[.int .u8 (by8 x 0), .int .u8 (by8 x 1), .int .u8 (by8 x 2), .int .u8 (by8 x 3), .int .u8 (by8 x 4), .int .u8 (by8 x 5), .int .u8 (by8 x 6), .int .u8 (by8 x 7)]⟩, ⟨w.heap.size, 72, #[.int .i64 room, .slice ao al.length cap]⟩]) (fun vi _ => al.length - (intOf vi).toNat)
  case atStart => exact ⟨0, rfl, by omega, fun j hj => by omega, HO.out⟩
  case round =>
    obtain ⟨i, rfl, hi, hno, O⟩ := hrel
    have HNO := Lib.hid hno
    have HO1 := Lib.hid O
    have hq := O.has (b := w.heap.size) (t := 72) (cs := #[.int .i64 room, .slice ao al.length cap]) (by simp)
    have t1 : wr.cell? ⟨w.heap.size, 1, none⟩ = some (.slice ao al.length cap) := hq.cell 1
    have lt1 := hq.lt
    have hqx := O.has (b := w.heap.size + 1) (t := 22) (cs := #[.int .u8 (by8 x 0), .int .u8 (by8 x 1), .int .u8 (by8 x 2), .int .u8 (by8 x 3), .int .u8 (by8 x 4), .int .u8 (by8 x 5), .int .u8 (by8 x 6), .int .u8 (by8 x 7)]) (by simp)
    (have x0 := hqx.cell 0); (have x1 := hqx.cell 1); (have x2 := hqx.cell 2); (have x3 := hqx.cell 3); (have x4 := hqx.cell 4); (have x5 := hqx.cell 5); (have x6 := hqx.cell 6); (have x7 := hqx.cell 7); (have lx := hqx.lt)
    simp only [List.getElem?_toArray, List.getElem?_cons_succ, List.getElem?_cons_zero] at x0 x1 x2 x3 x4 x5 x6 x7
    have hsz : w.heap.size ≤ wr.heap.size := O.mem.size
    have hold : ∀ r, r < w.heap.size → ∀ {j}, wr.cell? ⟨r, j, none⟩ = w.cell? ⟨r, j, none⟩ := fun r hr {j} => O.old hr j
    clear hno O hq hqx HO
    by_cases hlt : i < al.length
    ·
      obtain ⟨r, o, rfl, hr, hcell⟩ := HV.out.elem hlt
      have hrr : r < wr.heap.size := Nat.lt_of_lt_of_le hr hsz
      obtain ⟨y, hy⟩ : ∃ y, al.getD i default = y := ⟨_, rfl⟩
      rw [hy] at hcell
      have HY := Lib.hid hy
      have a0 : wr.cell? ⟨r, o + i * 10, none⟩ = some (.int .u8 (by8 y.h 0)) := by rw [hold r hr]; exact hcell 0 _ rfl
      have a1 : wr.cell? ⟨r, o + i * 10 + 1, none⟩ = some (.int .u8 (by8 y.h 1)) := by rw [hold r hr]; exact hcell 1 _ rfl
      have a2 : wr.cell? ⟨r, o + i * 10 + 2, none⟩ = some (.int .u8 (by8 y.h 2)) := by rw [hold r hr]; exact hcell 2 _ rfl
      have a3 : wr.cell? ⟨r, o + i * 10 + 3, none⟩ = some (.int .u8 (by8 y.h 3)) := by rw [hold r hr]; exact hcell 3 _ rfl
      have a4 : wr.cell? ⟨r, o + i * 10 + 4, none⟩ = some (.int .u8 (by8 y.h 4)) := by rw [hold r hr]; exact hcell 4 _ rfl
      have a5 : wr.cell? ⟨r, o + i * 10 + 5, none⟩ = some (.int .u8 (by8 y.h 5)) := by rw [hold r hr]; exact hcell 5 _ rfl
      have a6 : wr.cell? ⟨r, o + i * 10 + 6, none⟩ = some (.int .u8 (by8 y.h 6)) := by rw [hold r hr]; exact hcell 6 _ rfl
      have a7 : wr.cell? ⟨r, o + i * 10 + 7, none⟩ = some (.int .u8 (by8 y.h 7)) := by rw [hold r hr]; exact hcell 7 _ rfl
      have a8 : wr.cell? ⟨r, o + i * 10 + 8, none⟩ = some (.int .i64 y.n) := by rw [hold r hr]; exact hcell 8 _ rfl
      have a9 : wr.cell? ⟨r, o + i * 10 + 9, none⟩ = some (.string ⟨y.l.toArray⟩) := by rw [hold r hr]; exact hcell 9 _ rfl
      clear hcell hy hold hsz
      cases hyx : y.h == x with
      | true =>
        go_wp2_with fail
        refine wp_region_rq (by kernel_rfl) (by kernel_rfl) (by kernel_rfl) ?_
        repeat (first
          | (refine B_skip ?_ ?_; (· rfl); (try simp only [Act.put, List.setIfInBounds_toArray, List.set_cons_zero, List.set_cons_succ]))
          | (refine B_move rfl ?_ ?_; (· rfl); (try simp only [Act.eval, Act.put, Array.getD_eq_getD_getElem?, List.getElem?_toArray, List.getElem?_cons_succ, List.getElem?_cons_zero, Option.getD_some, List.setIfInBounds_toArray, List.set_cons_zero, List.set_cons_succ]))
          | (refine B_plain ?_ ?_; (· rfl); intro K hK; go_big_quiet_op; with_reducible refine hK _ ?_; clear hK K)
          | (fail))
        refine B_nil ?_ rfl ?_ ?_
        · kernel_rfl
        · rfl
        rintro _ ⟨⟨g3, d3⟩, rfl⟩
        simp only [fin, Act.put, List.setIfInBounds_toArray, List.set_cons_zero, List.set_cons_succ]
        go_wp2
        go_ret
        have e1 : r = r := rfl
        have hat := idx_first hlt (by rw [HY.out]; simpa using hyx) HNO.out
        have : atF al x = (i : Int) := by unfold atF; rw [hat]
        refine ⟨?_, (HO1.out.plus _ _).below⟩
        rw [← HRR.out, this]
        rfl
      | false =>
        go_wp2_with fail
        refine wp_region_rq (by kernel_rfl) (by kernel_rfl) (by kernel_rfl) ?_
        repeat (first
          | (refine B_skip ?_ ?_; (· rfl); (try simp only [Act.put, List.setIfInBounds_toArray, List.set_cons_zero, List.set_cons_succ]))
          | (refine B_move rfl ?_ ?_; (· rfl); (try simp only [Act.eval, Act.put, Array.getD_eq_getD_getElem?, List.getElem?_toArray, List.getElem?_cons_succ, List.getElem?_cons_zero, Option.getD_some, List.setIfInBounds_toArray, List.set_cons_zero, List.set_cons_succ]))
          | (refine B_plain ?_ ?_; (· rfl); intro K hK; go_big_quiet_op; with_reducible refine hK _ ?_; clear hK K)
          | (fail))
        refine B_nil ?_ rfl ?_ ?_
        · kernel_rfl
        · rfl
        rintro _ ⟨⟨g3, d3⟩, rfl⟩
        simp only [fin, Act.put, List.setIfInBounds_toArray, List.set_cons_zero, List.set_cons_succ]
        go_wp2
        refine ⟨⟨i + 1, by simp, by omega, fun j hj => ?_, HO1.out.plus _ _⟩, by simp [intOf]; omega⟩
        rcases (by omega : j < i ∨ j = i) with h | rfl
        · exact HNO.out j h
        · rw [HY.out]; simpa using hyx
    · obtain rfl : i = al.length := by omega
      have hat := idx_nope HNO.out
      have hr2 : atF al x = -1 := by unfold atF; rw [hat]
      have HR2 : Hid (r = -1) := by show _ = _; rw [← HRR.out, hr2]
      clear hold hat hr2
      go_wp2
      go_ret
      exact ⟨by rw [HR2.out]; rfl, HO1.out.below⟩

/-! ### Size -/
set_option maxRecDepth 100000 in
set_option maxHeartbeats 2000000 in
theorem rsize_to (room : Int) (v : Value) (al : List AP) (hn : al.length ≤ 1000000) (hbx : ∀ a ∈ al, a.l.length ≤ 32776) (w : World) (hv : RSl w v al) (s : Nat) (hs : sizeK al al.length = s) :
    Calls Try.prog 68 #[.agg #[.int .i64 room, v]] w fun e w' => e = .returned (.int .i64 s) ∧ Below w.heap.size w w' := by
  obtain ⟨ao, cap, rfl, hcap, -⟩ := hv.slice
  have HV := Lib.hid hv
  have HS := Lib.hid hs
  have HSB := Lib.hid (sizeK_le al hbx)
  have HO := Lib.hid ((Ow.start w).key #[.int .i64 room, .slice ao al.length cap] 72 w.heap.size rfl)
  clear hv hs hbx
  go_enter Try.func68, Try.ntmps68
  go_wp2_with fail
  go_loopw [3, 4] (fun v3 vi wr => ∃ (i q : Nat), vi = .int .i64 i ∧ i ≤ al.length ∧ v3 = .int .i64 q ∧ sizeK al i = q ∧ Ow wr w [⟨w.heap.size, 72, #[.int .i64 room, .slice ao al.length cap]⟩]) (fun _ vi _ => al.length - (intOf vi).toNat)
  case atStart => exact ⟨0, 0, rfl, by omega, rfl, rfl, HO.out⟩
  case round =>
    obtain ⟨i, q, rfl, hi, rfl, hq0, O⟩ := hrel
    have HQ := Lib.hid hq0
    have HO1 := Lib.hid O
    have hq := O.has (b := w.heap.size) (t := 72) (cs := #[.int .i64 room, .slice ao al.length cap]) (by simp)
    have t1 : wr.cell? ⟨w.heap.size, 1, none⟩ = some (.slice ao al.length cap) := hq.cell 1
    have lt1 := hq.lt
    have hsz : w.heap.size ≤ wr.heap.size := O.mem.size
    have hold : ∀ r, r < w.heap.size → ∀ {j}, wr.cell? ⟨r, j, none⟩ = w.cell? ⟨r, j, none⟩ := fun r hr {j} => O.old hr j
    clear O hq HO hq0
    by_cases hlt : i < al.length
    ·
      obtain ⟨r, o, rfl, hr, hcell⟩ := HV.out.elem hlt
      have hrr : r < wr.heap.size := Nat.lt_of_lt_of_le hr hsz
      obtain ⟨y, hy⟩ : ∃ y, al.getD i default = y := ⟨_, rfl⟩
      rw [hy] at hcell
      have HY := Lib.hid hy
      have a0 : wr.cell? ⟨r, o + i * 10, none⟩ = some (.int .u8 (by8 y.h 0)) := by rw [hold r hr]; exact hcell 0 _ rfl
      have a1 : wr.cell? ⟨r, o + i * 10 + 1, none⟩ = some (.int .u8 (by8 y.h 1)) := by rw [hold r hr]; exact hcell 1 _ rfl
      have a2 : wr.cell? ⟨r, o + i * 10 + 2, none⟩ = some (.int .u8 (by8 y.h 2)) := by rw [hold r hr]; exact hcell 2 _ rfl
      have a3 : wr.cell? ⟨r, o + i * 10 + 3, none⟩ = some (.int .u8 (by8 y.h 3)) := by rw [hold r hr]; exact hcell 3 _ rfl
      have a4 : wr.cell? ⟨r, o + i * 10 + 4, none⟩ = some (.int .u8 (by8 y.h 4)) := by rw [hold r hr]; exact hcell 4 _ rfl
      have a5 : wr.cell? ⟨r, o + i * 10 + 5, none⟩ = some (.int .u8 (by8 y.h 5)) := by rw [hold r hr]; exact hcell 5 _ rfl
      have a6 : wr.cell? ⟨r, o + i * 10 + 6, none⟩ = some (.int .u8 (by8 y.h 6)) := by rw [hold r hr]; exact hcell 6 _ rfl
      have a7 : wr.cell? ⟨r, o + i * 10 + 7, none⟩ = some (.int .u8 (by8 y.h 7)) := by rw [hold r hr]; exact hcell 7 _ rfl
      have a8 : wr.cell? ⟨r, o + i * 10 + 8, none⟩ = some (.int .i64 y.n) := by rw [hold r hr]; exact hcell 8 _ rfl
      have a9 : wr.cell? ⟨r, o + i * 10 + 9, none⟩ = some (.string ⟨y.l.toArray⟩) := by rw [hold r hr]; exact hcell 9 _ rfl
      clear hcell hy hold hsz
      have hst := sizeK_succ al i hlt
      rw [HY.out, HQ.out] at hst
      have h2 := HSB.out (i + 1) (by omega)
      have h3 := HSB.out i (by omega)
      rw [hst] at h2
      rw [HQ.out] at h3
      obtain ⟨q2, hq2⟩ : ∃ q2 : Nat, (q : Int) + (y.l.length : Int) = (q2 : Int) := ⟨q + y.l.length, by omega⟩
      have hq3 : q + y.l.length = q2 := by omega
      have HST : Hid (sizeK al (i + 1) = q2) := by show _ = _; rw [hst, hq3]
      have hyz : ({ data := y.l.toArray } : ByteArray).size = y.l.length := by simp [ByteArray.size]
      clear hst
      rw [hq3] at h2
      clear hq3
      go_wp2
      exact ⟨⟨i + 1, q2, by simp, by omega, by simp [hq2], HST.out, HO1.out⟩, by simp [intOf]; omega⟩
    · obtain rfl : i = al.length := by omega
      clear hold
      obtain rfl : q = s := by rw [← HQ.out, HS.out]
      go_wp2
      go_ret
      exact ⟨rfl, HO1.out.below⟩

/-! ### See -/
noncomputable def seeL (al : List AP) (x : BitVec 64) (base : Int) : List UInt8 × Bool := seeT ⟨0, al⟩ x base
set_option maxRecDepth 100000 in
set_option maxHeartbeats 2000000 in
theorem rsee_none (room : Int) (v : Value) (al : List AP) (hn : al.length ≤ 1000000) (x h : BitVec 64) (hx : thintF x = h) (base : Int) (w : World) (hv : RSl w v al) (r : Int) (hat : atF al h = r) (hr : r = -1) :
    Calls Try.prog 69 #[.agg #[.int .i64 room, v], .agg #[.int .u8 (by8 x 0), .int .u8 (by8 x 1), .int .u8 (by8 x 2), .int .u8 (by8 x 3), .int .u8 (by8 x 4), .int .u8 (by8 x 5), .int .u8 (by8 x 6), .int .u8 (by8 x 7)], .int .i64 base] w fun e w' => e = .returned (.tuple #[.string ByteArray.empty, .bool false]) ∧ Below w.heap.size w w' := by
  obtain ⟨ao, cap, rfl, hcap, -⟩ := hv.slice
  have HV := Lib.hid hv
  have HX := Lib.hid hx
  have HAT := Lib.hid hat
  have HO := Lib.hid (((Ow.start w).key #[.int .i64 room, .slice ao al.length cap] 72 w.heap.size rfl).key #[.int .u8 (by8 x 0), .int .u8 (by8 x 1), .int .u8 (by8 x 2), .int .u8 (by8 x 3), .int .u8 (by8 x 4), .int .u8 (by8 x 5), .int .u8 (by8 x 6), .int .u8 (by8 x 7)] 22 (w.heap.size + 1) (by simp))
  have T2 : Hid (∀ g d, Calls Try.prog 81 #[.agg #[.int .i64 room, .slice ao al.length cap], .agg #[.int .u8 (by8 h 0), .int .u8 (by8 h 1), .int .u8 (by8 h 2), .int .u8 (by8 h 3), .int .u8 (by8 h 4), .int .u8 (by8 h 5), .int .u8 (by8 h 6), .int .u8 (by8 h 7)]] (plus ((w.alloc (.cells #[.int .i64 room, .slice ao al.length cap] 72)).alloc (.cells #[.int .u8 (by8 x 0), .int .u8 (by8 x 1), .int .u8 (by8 x 2), .int .u8 (by8 x 3), .int .u8 (by8 x 4), .int .u8 (by8 x 5), .int .u8 (by8 x 6), .int .u8 (by8 x 7)] 22)) g d) fun e w' => e = .returned (.int .i64 r) ∧ Below (plus ((w.alloc (.cells #[.int .i64 room, .slice ao al.length cap] 72)).alloc (.cells #[.int .u8 (by8 x 0), .int .u8 (by8 x 1), .int .u8 (by8 x 2), .int .u8 (by8 x 3), .int .u8 (by8 x 4), .int .u8 (by8 x 5), .int .u8 (by8 x 6), .int .u8 (by8 x 7)] 22)) g d).heap.size (plus ((w.alloc (.cells #[.int .i64 room, .slice ao al.length cap] 72)).alloc (.cells #[.int .u8 (by8 x 0), .int .u8 (by8 x 1), .int .u8 (by8 x 2), .int .u8 (by8 x 3), .int .u8 (by8 x 4), .int .u8 (by8 x 5), .int .u8 (by8 x 6), .int .u8 (by8 x 7)] 22)) g d) w') := fun g d => rat_to room _ al hn h _ (((hv.alloc _).alloc _).plus g d) r hat
  clear hv hx hat
  subst hr
  go_enter Try.func69, Try.ntmps69
  go_wp2_with fail
  refine wp_region_rq (by kernel_rfl) (by kernel_rfl) (by kernel_rfl) ?_
  repeat (first
    | (refine B_skip ?_ ?_; (· rfl); (try simp only [Act.put, List.setIfInBounds_toArray, List.set_cons_zero, List.set_cons_succ]))
    | (refine B_move rfl ?_ ?_; (· rfl); (try simp only [Act.eval, Act.put, Array.getD_eq_getD_getElem?, List.getElem?_toArray, List.getElem?_cons_succ, List.getElem?_cons_zero, Option.getD_some, List.setIfInBounds_toArray, List.set_cons_zero, List.set_cons_succ]))
    | (refine B_plain ?_ ?_; (· rfl); intro K hK; go_big_quiet_op; with_reducible refine hK _ ?_; clear hK K)
    | (refine B_callX (v := ?_) (f := 19) rfl (by kernel_rfl) ?_ (fun xq => ?_) ?_; rotate_left; (· rfl); (· ((simp only [List.map_toArray, List.map_cons, List.map_nil, Act.eval, Array.getD_eq_getD_getElem?, List.getElem?_toArray, List.getElem?_cons_succ, List.getElem?_cons_zero, Option.getD_some]); with_reducible apply retB; with_reducible exact (rhint_to x h HX.out _))); (try simp only [Act.put, List.setIfInBounds_toArray, List.set_cons_zero, List.set_cons_succ]))
    | (refine B_callX (v := ?_) (f := 81) rfl (by kernel_rfl) ?_ (fun xq => ?_) ?_; rotate_left; (· rfl); (· ((simp only [List.map_toArray, List.map_cons, List.map_nil, Act.eval, Array.getD_eq_getD_getElem?, List.getElem?_toArray, List.getElem?_cons_succ, List.getElem?_cons_zero, Option.getD_some]); with_reducible apply retB; with_reducible exact (T2.out _ _))); (try simp only [Act.put, List.setIfInBounds_toArray, List.set_cons_zero, List.set_cons_succ])))
  refine B_nil ?_ rfl ?_ ?_
  · kernel_rfl
  · rfl
  rintro _ ⟨⟨g1, d1⟩, rfl⟩
  simp only [fin, Act.put, List.setIfInBounds_toArray, List.set_cons_zero, List.set_cons_succ]
  go_wp2
  refine bodyPost_ret (v := .tuple #[.string ByteArray.empty, .bool false]) (by simp [results, Try.results69, go_sem, ba_empty]) rfl ⟨rfl, by (repeat' (first | (with_reducible exact Below.refl _ _) | (with_reducible refine bplus ?_ _ _) | (with_reducible refine balloc ?_ _) | (with_reducible refine Below.drew ?_) | (with_reducible refine bdrewN ?_ _) | (with_reducible refine Below.setCell ?_ (by go_size) _)))⟩
set_option maxRecDepth 100000 in
set_option maxHeartbeats 2000000 in
theorem rsee_old (room : Int) (v : Value) (al : List AP) (hn : al.length ≤ 1000000) (x h : BitVec 64) (hx : thintF x = h) (base : Int) (w : World) (hv : RSl w v al) (r : Int) (hat : atF al h = r) (i : Nat) (hr : r = (i : Int)) (hlt : i < al.length) (ho : (al.getD i default).n ≤ base) :
    Calls Try.prog 69 #[.agg #[.int .i64 room, v], .agg #[.int .u8 (by8 x 0), .int .u8 (by8 x 1), .int .u8 (by8 x 2), .int .u8 (by8 x 3), .int .u8 (by8 x 4), .int .u8 (by8 x 5), .int .u8 (by8 x 6), .int .u8 (by8 x 7)], .int .i64 base] w fun e w' => e = .returned (.tuple #[.string ByteArray.empty, .bool false]) ∧ Below w.heap.size w w' := by
  obtain ⟨ao, cap, rfl, hcap, -⟩ := hv.slice
  have HV := Lib.hid hv
  have HX := Lib.hid hx
  have HAT := Lib.hid hat
  have HO := Lib.hid (((Ow.start w).key #[.int .i64 room, .slice ao al.length cap] 72 w.heap.size rfl).key #[.int .u8 (by8 x 0), .int .u8 (by8 x 1), .int .u8 (by8 x 2), .int .u8 (by8 x 3), .int .u8 (by8 x 4), .int .u8 (by8 x 5), .int .u8 (by8 x 6), .int .u8 (by8 x 7)] 22 (w.heap.size + 1) (by simp))
  have T2 : Hid (∀ g d, Calls Try.prog 81 #[.agg #[.int .i64 room, .slice ao al.length cap], .agg #[.int .u8 (by8 h 0), .int .u8 (by8 h 1), .int .u8 (by8 h 2), .int .u8 (by8 h 3), .int .u8 (by8 h 4), .int .u8 (by8 h 5), .int .u8 (by8 h 6), .int .u8 (by8 h 7)]] (plus ((w.alloc (.cells #[.int .i64 room, .slice ao al.length cap] 72)).alloc (.cells #[.int .u8 (by8 x 0), .int .u8 (by8 x 1), .int .u8 (by8 x 2), .int .u8 (by8 x 3), .int .u8 (by8 x 4), .int .u8 (by8 x 5), .int .u8 (by8 x 6), .int .u8 (by8 x 7)] 22)) g d) fun e w' => e = .returned (.int .i64 r) ∧ Below (plus ((w.alloc (.cells #[.int .i64 room, .slice ao al.length cap] 72)).alloc (.cells #[.int .u8 (by8 x 0), .int .u8 (by8 x 1), .int .u8 (by8 x 2), .int .u8 (by8 x 3), .int .u8 (by8 x 4), .int .u8 (by8 x 5), .int .u8 (by8 x 6), .int .u8 (by8 x 7)] 22)) g d).heap.size (plus ((w.alloc (.cells #[.int .i64 room, .slice ao al.length cap] 72)).alloc (.cells #[.int .u8 (by8 x 0), .int .u8 (by8 x 1), .int .u8 (by8 x 2), .int .u8 (by8 x 3), .int .u8 (by8 x 4), .int .u8 (by8 x 5), .int .u8 (by8 x 6), .int .u8 (by8 x 7)] 22)) g d) w') := fun g d => rat_to room _ al hn h _ (((hv.alloc _).alloc _).plus g d) r hat
  clear hv hx hat
  obtain ⟨q, o, rfl, hq, hcell⟩ := HV.out.elem hlt
  have c8 : w.cell? ⟨q, o + i * 10 + 8, none⟩ = some (.int .i64 (al.getD i default).n) := hcell 8 _ rfl
  have c9 : w.cell? ⟨q, o + i * 10 + 9, none⟩ = some (.string ⟨(al.getD i default).l.toArray⟩) := hcell 9 _ rfl
  obtain ⟨nn, hnn⟩ : ∃ z, (al.getD i default).n = z := ⟨_, rfl⟩
  rw [hnn] at c8 ho
  subst hr
  have hi0 : decide ((i : Int) < 0) = false := decide_eq_false (by omega)
  have hd3 : decide (nn ≤ base) = true := decide_eq_true ho
  clear hcell hnn c9
  go_enter Try.func69, Try.ntmps69
  go_wp2_with fail
  refine wp_region_rq (by kernel_rfl) (by kernel_rfl) (by kernel_rfl) ?_
  repeat (first
    | (refine B_skip ?_ ?_; (· rfl); (try simp only [Act.put, List.setIfInBounds_toArray, List.set_cons_zero, List.set_cons_succ]))
    | (refine B_move rfl ?_ ?_; (· rfl); (try simp only [Act.eval, Act.put, Array.getD_eq_getD_getElem?, List.getElem?_toArray, List.getElem?_cons_succ, List.getElem?_cons_zero, Option.getD_some, List.setIfInBounds_toArray, List.set_cons_zero, List.set_cons_succ]))
    | (refine B_plain ?_ ?_; (· rfl); intro K hK; go_big_quiet_op; with_reducible refine hK _ ?_; clear hK K)
    | (refine B_callX (v := ?_) (f := 19) rfl (by kernel_rfl) ?_ (fun xq => ?_) ?_; rotate_left; (· rfl); (· ((simp only [List.map_toArray, List.map_cons, List.map_nil, Act.eval, Array.getD_eq_getD_getElem?, List.getElem?_toArray, List.getElem?_cons_succ, List.getElem?_cons_zero, Option.getD_some]); with_reducible apply retB; with_reducible exact (rhint_to x h HX.out _))); (try simp only [Act.put, List.setIfInBounds_toArray, List.set_cons_zero, List.set_cons_succ]))
    | (refine B_callX (v := ?_) (f := 81) rfl (by kernel_rfl) ?_ (fun xq => ?_) ?_; rotate_left; (· rfl); (· ((simp only [List.map_toArray, List.map_cons, List.map_nil, Act.eval, Array.getD_eq_getD_getElem?, List.getElem?_toArray, List.getElem?_cons_succ, List.getElem?_cons_zero, Option.getD_some]); with_reducible apply retB; with_reducible exact (T2.out _ _))); (try simp only [Act.put, List.setIfInBounds_toArray, List.set_cons_zero, List.set_cons_succ])))
  refine B_nil ?_ rfl ?_ ?_
  · kernel_rfl
  · rfl
  rintro _ ⟨⟨g1, d1⟩, rfl⟩
  simp only [fin, Act.put, List.setIfInBounds_toArray, List.set_cons_zero, List.set_cons_succ]
  go_wp2
  refine bodyPost_ret (v := .tuple #[.string ByteArray.empty, .bool false]) (by simp [results, Try.results69, go_sem, ba_empty]) rfl ⟨rfl, by (repeat' (first | (with_reducible exact Below.refl _ _) | (with_reducible refine bplus ?_ _ _) | (with_reducible refine balloc ?_ _) | (with_reducible refine Below.drew ?_) | (with_reducible refine bdrewN ?_ _) | (with_reducible refine Below.setCell ?_ (by go_size) _)))⟩
set_option maxRecDepth 100000 in
set_option maxHeartbeats 4000000 in
theorem rsee_shut (room : Int) (v : Value) (al : List AP) (hn : al.length ≤ 1000000) (x h : BitVec 64) (hx : thintF x = h) (base : Int) (w : World) (hv : RSl w v al) (r : Int) (hat : atF al h = r) (i : Nat) (hr : r = (i : Int)) (hlt : i < al.length) (ho : ¬ (al.getD i default).n ≤ base) (hbx : (al.getD i default).l.length ≤ 9223372036854775807) (l : List UInt8) (er : Nat) (her : er ≠ 0) (hop : openF (tkeyF x) (al.getD i default).l = (l, er)) :
    Calls Try.prog 69 #[.agg #[.int .i64 room, v], .agg #[.int .u8 (by8 x 0), .int .u8 (by8 x 1), .int .u8 (by8 x 2), .int .u8 (by8 x 3), .int .u8 (by8 x 4), .int .u8 (by8 x 5), .int .u8 (by8 x 6), .int .u8 (by8 x 7)], .int .i64 base] w fun e w' => e = .returned (.tuple #[.string ByteArray.empty, .bool false]) ∧ Below w.heap.size w w' := by
  have hne : ((er : Int) == 0) = false := by rw [beq_eq_false_iff_ne]; omega
  obtain ⟨ao, cap, rfl, hcap, -⟩ := hv.slice
  have HV := Lib.hid hv
  have HX := Lib.hid hx
  have HAT := Lib.hid hat
  have HO := Lib.hid (((Ow.start w).key #[.int .i64 room, .slice ao al.length cap] 72 w.heap.size rfl).key #[.int .u8 (by8 x 0), .int .u8 (by8 x 1), .int .u8 (by8 x 2), .int .u8 (by8 x 3), .int .u8 (by8 x 4), .int .u8 (by8 x 5), .int .u8 (by8 x 6), .int .u8 (by8 x 7)] 22 (w.heap.size + 1) (by simp))
  have T2 : Hid (∀ g d, Calls Try.prog 81 #[.agg #[.int .i64 room, .slice ao al.length cap], .agg #[.int .u8 (by8 h 0), .int .u8 (by8 h 1), .int .u8 (by8 h 2), .int .u8 (by8 h 3), .int .u8 (by8 h 4), .int .u8 (by8 h 5), .int .u8 (by8 h 6), .int .u8 (by8 h 7)]] (plus ((w.alloc (.cells #[.int .i64 room, .slice ao al.length cap] 72)).alloc (.cells #[.int .u8 (by8 x 0), .int .u8 (by8 x 1), .int .u8 (by8 x 2), .int .u8 (by8 x 3), .int .u8 (by8 x 4), .int .u8 (by8 x 5), .int .u8 (by8 x 6), .int .u8 (by8 x 7)] 22)) g d) fun e w' => e = .returned (.int .i64 r) ∧ Below (plus ((w.alloc (.cells #[.int .i64 room, .slice ao al.length cap] 72)).alloc (.cells #[.int .u8 (by8 x 0), .int .u8 (by8 x 1), .int .u8 (by8 x 2), .int .u8 (by8 x 3), .int .u8 (by8 x 4), .int .u8 (by8 x 5), .int .u8 (by8 x 6), .int .u8 (by8 x 7)] 22)) g d).heap.size (plus ((w.alloc (.cells #[.int .i64 room, .slice ao al.length cap] 72)).alloc (.cells #[.int .u8 (by8 x 0), .int .u8 (by8 x 1), .int .u8 (by8 x 2), .int .u8 (by8 x 3), .int .u8 (by8 x 4), .int .u8 (by8 x 5), .int .u8 (by8 x 6), .int .u8 (by8 x 7)] 22)) g d) w') := fun g d => rat_to room _ al hn h _ (((hv.alloc _).alloc _).plus g d) r hat
  clear hv hx hat
  obtain ⟨q, o, rfl, hq, hcell⟩ := HV.out.elem hlt
  have c8 : w.cell? ⟨q, o + i * 10 + 8, none⟩ = some (.int .i64 (al.getD i default).n) := hcell 8 _ rfl
  have c9 : w.cell? ⟨q, o + i * 10 + 9, none⟩ = some (.string ⟨(al.getD i default).l.toArray⟩) := hcell 9 _ rfl
  obtain ⟨nn, hnn⟩ : ∃ z, (al.getD i default).n = z := ⟨_, rfl⟩
  rw [hnn] at c8 ho
  subst hr
  have hi0 : decide ((i : Int) < 0) = false := decide_eq_false (by omega)
  obtain ⟨bl, hbl⟩ : ∃ z, (al.getD i default).l = z := ⟨_, rfl⟩
  rw [hbl] at c9 hop hbx
  obtain ⟨k, HK⟩ : ∃ k, Hid (tkeyF x = k) := ⟨_, rfl⟩
  have HOP : Hid (openF k bl = (l, er)) := by show _ = _; rw [← HK.out]; exact hop
  have HBX := Lib.hid hbx
  have hd3 : decide (nn ≤ base) = false := decide_eq_false ho
  obtain ⟨sb, hsb⟩ : ∃ sb, ({ data := bl.toArray } : ByteArray) = sb := ⟨_, rfl⟩
  have HSB : Hid (strL sb = bl) := by show _ = _; rw [← hsb, strL_mk]
  rw [hsb] at c9
  clear hcell hnn hbl hop hbx hsb
  go_enter Try.func69, Try.ntmps69
  go_wp2_with fail
  refine wp_region_rq (by kernel_rfl) (by kernel_rfl) (by kernel_rfl) ?_
  repeat (first
    | (refine B_skip ?_ ?_; (· rfl); (try simp only [Act.put, List.setIfInBounds_toArray, List.set_cons_zero, List.set_cons_succ]))
    | (refine B_move rfl ?_ ?_; (· rfl); (try simp only [Act.eval, Act.put, Array.getD_eq_getD_getElem?, List.getElem?_toArray, List.getElem?_cons_succ, List.getElem?_cons_zero, Option.getD_some, List.setIfInBounds_toArray, List.set_cons_zero, List.set_cons_succ]))
    | (refine B_plain ?_ ?_; (· rfl); intro K hK; go_big_quiet_op; with_reducible refine hK _ ?_; clear hK K)
    | (refine B_callX (v := ?_) (f := 19) rfl (by kernel_rfl) ?_ (fun xq => ?_) ?_; rotate_left; (· rfl); (· ((simp only [List.map_toArray, List.map_cons, List.map_nil, Act.eval, Array.getD_eq_getD_getElem?, List.getElem?_toArray, List.getElem?_cons_succ, List.getElem?_cons_zero, Option.getD_some]); with_reducible apply retB; with_reducible exact (rhint_to x h HX.out _))); (try simp only [Act.put, List.setIfInBounds_toArray, List.set_cons_zero, List.set_cons_succ]))
    | (refine B_callX (v := ?_) (f := 81) rfl (by kernel_rfl) ?_ (fun xq => ?_) ?_; rotate_left; (· rfl); (· ((simp only [List.map_toArray, List.map_cons, List.map_nil, Act.eval, Array.getD_eq_getD_getElem?, List.getElem?_toArray, List.getElem?_cons_succ, List.getElem?_cons_zero, Option.getD_some]); with_reducible apply retB; with_reducible exact (T2.out _ _))); (try simp only [Act.put, List.setIfInBounds_toArray, List.set_cons_zero, List.set_cons_succ])))
  refine B_nil ?_ rfl ?_ ?_
  · kernel_rfl
  · rfl
  rintro _ ⟨⟨g1, d1⟩, rfl⟩
  simp only [fin, Act.put, List.setIfInBounds_toArray, List.set_cons_zero, List.set_cons_succ]
  go_wp2_with fail
  refine wp_region_rq (by kernel_rfl) (by kernel_rfl) (by kernel_rfl) ?_
  repeat (first
    | (refine B_skip ?_ ?_; (· rfl); (try simp only [Act.put, List.setIfInBounds_toArray, List.set_cons_zero, List.set_cons_succ]))
    | (refine B_move rfl ?_ ?_; (· rfl); (try simp only [Act.eval, Act.put, Array.getD_eq_getD_getElem?, List.getElem?_toArray, List.getElem?_cons_succ, List.getElem?_cons_zero, Option.getD_some, List.setIfInBounds_toArray, List.set_cons_zero, List.set_cons_succ]))
    | (refine B_plain ?_ ?_; (· rfl); intro K hK; go_big_quiet_op; with_reducible refine hK _ ?_; clear hK K)
    | (refine B_callX (v := ?_) (f := 60) rfl (by kernel_rfl) ?_ (fun xq => ?_) ?_; rotate_left; (· rfl); (· ((simp only [List.map_toArray, List.map_cons, List.map_nil, Act.eval, Array.getD_eq_getD_getElem?, List.getElem?_toArray, List.getElem?_cons_succ, List.getElem?_cons_zero, Option.getD_some]); with_reducible apply retB; with_reducible exact (rkey_to x k HK.out _))); (try simp only [Act.put, List.setIfInBounds_toArray, List.set_cons_zero, List.set_cons_succ]))
    | (refine B_bytesT (tx := sb) HSB.out rfl rfl (by rfl) ?_ ?_; (· rfl))
    | (refine B_callRR (TupP (fun v w => BSl w v l) (.int .i64 er)) (stays_tup (stays_bsl _) _) (f := 99) rfl rfl (by kernel_rfl) ?_ (fun xq vs hvs => ?_) ?_; (· rfl); (· (obtain ⟨a1, _, rfl, e1, a2, _, rfl, e2, e3⟩ := hvs; obtain rfl : a1 = .agg #[.int .u8 (by8 k 0), .int .u8 (by8 k 1), .int .u8 (by8 k 2), .int .u8 (by8 k 3), .int .u8 (by8 k 4), .int .u8 (by8 k 5), .int .u8 (by8 k 6), .int .u8 (by8 k 7)] := e1; cases e3; (with_reducible apply retR); refine (refOpen_any k a2 bl HBX.out l er HOP.out _ e2).mono ?_; rintro e w' ⟨u, r1, r2, r3⟩; exact ⟨_, r1, r2, u, rfl, r3.bsl⟩)))
    | (refine B_moveR (TupP (fun v w => BSl w v l) (.int .i64 er)) (stays_tup (stays_bsl _) _) rfl (.inl rfl) rfl ?_ ?_; (· rfl))
    | (refine B_ext0 (stays_bsl _) rfl rfl rfl ?_ ?_; (· rfl))
    | (refine B_ext1 rfl rfl rfl ?_ ?_ ?_; (· rfl); (· rfl); (try simp only [Act.put, List.setIfInBounds_toArray, List.set_cons_zero, List.set_cons_succ]))
    | (refine B_moveR (fun v w => BSl w v l) (stays_bsl _) rfl (.inr rfl) rfl ?_ ?_; (· rfl)))
  refine B_nil ?_ rfl ?_ ?_
  · kernel_rfl
  · rfl
  rintro _ ⟨⟨g2, d2⟩, rfl⟩
  simp only [fin, Act.put, List.setIfInBounds_toArray, List.set_cons_zero, List.set_cons_succ]
  intros
  go_wp2
  refine bodyPost_ret (v := .tuple #[.string ByteArray.empty, .bool false]) (by simp [results, Try.results69, go_sem, ba_empty]) rfl ⟨rfl, by (repeat' (first | (with_reducible exact Below.refl _ _) | (with_reducible refine bplus ?_ _ _) | (with_reducible refine balloc ?_ _) | (with_reducible refine Below.drew ?_) | (with_reducible refine bdrewN ?_ _) | (with_reducible refine Below.setCell ?_ (by go_size) _)))⟩
set_option maxRecDepth 100000 in
set_option maxHeartbeats 4000000 in
theorem rsee_yes (room : Int) (v : Value) (al : List AP) (hn : al.length ≤ 1000000) (x h : BitVec 64) (hx : thintF x = h) (base : Int) (w : World) (hv : RSl w v al) (r : Int) (hat : atF al h = r) (i : Nat) (hr : r = (i : Int)) (hlt : i < al.length) (ho : ¬ (al.getD i default).n ≤ base) (hbx : (al.getD i default).l.length ≤ 9223372036854775807) (l : List UInt8) (er : Nat) (her : er = 0) (hop : openF (tkeyF x) (al.getD i default).l = (l, er)) :
    Calls Try.prog 69 #[.agg #[.int .i64 room, v], .agg #[.int .u8 (by8 x 0), .int .u8 (by8 x 1), .int .u8 (by8 x 2), .int .u8 (by8 x 3), .int .u8 (by8 x 4), .int .u8 (by8 x 5), .int .u8 (by8 x 6), .int .u8 (by8 x 7)], .int .i64 base] w fun e w' => e = .returned (.tuple #[.string ⟨l.toArray⟩, .bool true]) ∧ Below w.heap.size w w' := by
  obtain ⟨ao, cap, rfl, hcap, -⟩ := hv.slice
  have HV := Lib.hid hv
  have HX := Lib.hid hx
  have HAT := Lib.hid hat
  have HO := Lib.hid (((Ow.start w).key #[.int .i64 room, .slice ao al.length cap] 72 w.heap.size rfl).key #[.int .u8 (by8 x 0), .int .u8 (by8 x 1), .int .u8 (by8 x 2), .int .u8 (by8 x 3), .int .u8 (by8 x 4), .int .u8 (by8 x 5), .int .u8 (by8 x 6), .int .u8 (by8 x 7)] 22 (w.heap.size + 1) (by simp))
  have T2 : Hid (∀ g d, Calls Try.prog 81 #[.agg #[.int .i64 room, .slice ao al.length cap], .agg #[.int .u8 (by8 h 0), .int .u8 (by8 h 1), .int .u8 (by8 h 2), .int .u8 (by8 h 3), .int .u8 (by8 h 4), .int .u8 (by8 h 5), .int .u8 (by8 h 6), .int .u8 (by8 h 7)]] (plus ((w.alloc (.cells #[.int .i64 room, .slice ao al.length cap] 72)).alloc (.cells #[.int .u8 (by8 x 0), .int .u8 (by8 x 1), .int .u8 (by8 x 2), .int .u8 (by8 x 3), .int .u8 (by8 x 4), .int .u8 (by8 x 5), .int .u8 (by8 x 6), .int .u8 (by8 x 7)] 22)) g d) fun e w' => e = .returned (.int .i64 r) ∧ Below (plus ((w.alloc (.cells #[.int .i64 room, .slice ao al.length cap] 72)).alloc (.cells #[.int .u8 (by8 x 0), .int .u8 (by8 x 1), .int .u8 (by8 x 2), .int .u8 (by8 x 3), .int .u8 (by8 x 4), .int .u8 (by8 x 5), .int .u8 (by8 x 6), .int .u8 (by8 x 7)] 22)) g d).heap.size (plus ((w.alloc (.cells #[.int .i64 room, .slice ao al.length cap] 72)).alloc (.cells #[.int .u8 (by8 x 0), .int .u8 (by8 x 1), .int .u8 (by8 x 2), .int .u8 (by8 x 3), .int .u8 (by8 x 4), .int .u8 (by8 x 5), .int .u8 (by8 x 6), .int .u8 (by8 x 7)] 22)) g d) w') := fun g d => rat_to room _ al hn h _ (((hv.alloc _).alloc _).plus g d) r hat
  clear hv hx hat
  obtain ⟨q, o, rfl, hq, hcell⟩ := HV.out.elem hlt
  have c8 : w.cell? ⟨q, o + i * 10 + 8, none⟩ = some (.int .i64 (al.getD i default).n) := hcell 8 _ rfl
  have c9 : w.cell? ⟨q, o + i * 10 + 9, none⟩ = some (.string ⟨(al.getD i default).l.toArray⟩) := hcell 9 _ rfl
  obtain ⟨nn, hnn⟩ : ∃ z, (al.getD i default).n = z := ⟨_, rfl⟩
  rw [hnn] at c8 ho
  subst hr
  have hi0 : decide ((i : Int) < 0) = false := decide_eq_false (by omega)
  obtain ⟨bl, hbl⟩ : ∃ z, (al.getD i default).l = z := ⟨_, rfl⟩
  rw [hbl] at c9 hop hbx
  obtain ⟨k, HK⟩ : ∃ k, Hid (tkeyF x = k) := ⟨_, rfl⟩
  have HOP : Hid (openF k bl = (l, er)) := by show _ = _; rw [← HK.out]; exact hop
  have HBX := Lib.hid hbx
  have hd3 : decide (nn ≤ base) = false := decide_eq_false ho
  obtain ⟨sb, hsb⟩ : ∃ sb, ({ data := bl.toArray } : ByteArray) = sb := ⟨_, rfl⟩
  have HSB : Hid (strL sb = bl) := by show _ = _; rw [← hsb, strL_mk]
  rw [hsb] at c9
  clear hcell hnn hbl hop hbx hsb
  go_enter Try.func69, Try.ntmps69
  go_wp2_with fail
  refine wp_region_rq (by kernel_rfl) (by kernel_rfl) (by kernel_rfl) ?_
  repeat (first
    | (refine B_skip ?_ ?_; (· rfl); (try simp only [Act.put, List.setIfInBounds_toArray, List.set_cons_zero, List.set_cons_succ]))
    | (refine B_move rfl ?_ ?_; (· rfl); (try simp only [Act.eval, Act.put, Array.getD_eq_getD_getElem?, List.getElem?_toArray, List.getElem?_cons_succ, List.getElem?_cons_zero, Option.getD_some, List.setIfInBounds_toArray, List.set_cons_zero, List.set_cons_succ]))
    | (refine B_plain ?_ ?_; (· rfl); intro K hK; go_big_quiet_op; with_reducible refine hK _ ?_; clear hK K)
    | (refine B_callX (v := ?_) (f := 19) rfl (by kernel_rfl) ?_ (fun xq => ?_) ?_; rotate_left; (· rfl); (· ((simp only [List.map_toArray, List.map_cons, List.map_nil, Act.eval, Array.getD_eq_getD_getElem?, List.getElem?_toArray, List.getElem?_cons_succ, List.getElem?_cons_zero, Option.getD_some]); with_reducible apply retB; with_reducible exact (rhint_to x h HX.out _))); (try simp only [Act.put, List.setIfInBounds_toArray, List.set_cons_zero, List.set_cons_succ]))
    | (refine B_callX (v := ?_) (f := 81) rfl (by kernel_rfl) ?_ (fun xq => ?_) ?_; rotate_left; (· rfl); (· ((simp only [List.map_toArray, List.map_cons, List.map_nil, Act.eval, Array.getD_eq_getD_getElem?, List.getElem?_toArray, List.getElem?_cons_succ, List.getElem?_cons_zero, Option.getD_some]); with_reducible apply retB; with_reducible exact (T2.out _ _))); (try simp only [Act.put, List.setIfInBounds_toArray, List.set_cons_zero, List.set_cons_succ])))
  refine B_nil ?_ rfl ?_ ?_
  · kernel_rfl
  · rfl
  rintro _ ⟨⟨g1, d1⟩, rfl⟩
  simp only [fin, Act.put, List.setIfInBounds_toArray, List.set_cons_zero, List.set_cons_succ]
  go_wp2_with fail
  refine wp_region_rq (by kernel_rfl) (by kernel_rfl) (by kernel_rfl) ?_
  repeat (first
    | (refine B_skip ?_ ?_; (· rfl); (try simp only [Act.put, List.setIfInBounds_toArray, List.set_cons_zero, List.set_cons_succ]))
    | (refine B_move rfl ?_ ?_; (· rfl); (try simp only [Act.eval, Act.put, Array.getD_eq_getD_getElem?, List.getElem?_toArray, List.getElem?_cons_succ, List.getElem?_cons_zero, Option.getD_some, List.setIfInBounds_toArray, List.set_cons_zero, List.set_cons_succ]))
    | (refine B_plain ?_ ?_; (· rfl); intro K hK; go_big_quiet_op; with_reducible refine hK _ ?_; clear hK K)
    | (refine B_callX (v := ?_) (f := 60) rfl (by kernel_rfl) ?_ (fun xq => ?_) ?_; rotate_left; (· rfl); (· ((simp only [List.map_toArray, List.map_cons, List.map_nil, Act.eval, Array.getD_eq_getD_getElem?, List.getElem?_toArray, List.getElem?_cons_succ, List.getElem?_cons_zero, Option.getD_some]); with_reducible apply retB; with_reducible exact (rkey_to x k HK.out _))); (try simp only [Act.put, List.setIfInBounds_toArray, List.set_cons_zero, List.set_cons_succ]))
    | (refine B_bytesT (tx := sb) HSB.out rfl rfl (by rfl) ?_ ?_; (· rfl))
    | (refine B_callRR (TupP (fun v w => BSl w v l) (.int .i64 er)) (stays_tup (stays_bsl _) _) (f := 99) rfl rfl (by kernel_rfl) ?_ (fun xq vs hvs => ?_) ?_; (· rfl); (· (obtain ⟨a1, _, rfl, e1, a2, _, rfl, e2, e3⟩ := hvs; obtain rfl : a1 = .agg #[.int .u8 (by8 k 0), .int .u8 (by8 k 1), .int .u8 (by8 k 2), .int .u8 (by8 k 3), .int .u8 (by8 k 4), .int .u8 (by8 k 5), .int .u8 (by8 k 6), .int .u8 (by8 k 7)] := e1; cases e3; (with_reducible apply retR); refine (refOpen_any k a2 bl HBX.out l er HOP.out _ e2).mono ?_; rintro e w' ⟨u, r1, r2, r3⟩; exact ⟨_, r1, r2, u, rfl, r3.bsl⟩)))
    | (refine B_moveR (TupP (fun v w => BSl w v l) (.int .i64 er)) (stays_tup (stays_bsl _) _) rfl (.inl rfl) rfl ?_ ?_; (· rfl))
    | (refine B_ext0 (stays_bsl _) rfl rfl rfl ?_ ?_; (· rfl))
    | (refine B_ext1 rfl rfl rfl ?_ ?_ ?_; (· rfl); (· rfl); (try simp only [Act.put, List.setIfInBounds_toArray, List.set_cons_zero, List.set_cons_succ]))
    | (refine B_moveR (fun v w => BSl w v l) (stays_bsl _) rfl (.inr rfl) rfl ?_ ?_; (· rfl)))
  refine B_nil ?_ rfl ?_ ?_
  · kernel_rfl
  · rfl
  rintro _ ⟨⟨g2, d2⟩, rfl⟩
  simp only [fin, Act.put, List.setIfInBounds_toArray, List.set_cons_zero, List.set_cons_succ]
  subst her
  intro u9 hu9 _ _ _ _ _ _ _ _
  have hcv := run_strT _ u9 l hu9
  clear hu9
  (try rw [plus_plus] at hcv)
  go_wp2
  refine bodyPost_ret (v := .tuple #[.string ⟨l.toArray⟩, .bool true]) (by simp [results, Try.results69, go_sem]) rfl ⟨rfl, by (repeat' (first | (with_reducible exact Below.refl _ _) | (with_reducible refine bplus ?_ _ _) | (with_reducible refine balloc ?_ _) | (with_reducible refine Below.drew ?_) | (with_reducible refine bdrewN ?_ _) | (with_reducible refine Below.setCell ?_ (by go_size) _)))⟩
theorem rsee_to (room : Int) (v : Value) (al : List AP) (hn : al.length ≤ 1000000) (hbx : ∀ a ∈ al, a.l.length ≤ 32776) (x : BitVec 64) (base : Int) (w : World) (hv : RSl w v al) (l : List UInt8) (b : Bool) (hE : seeT ⟨0, al⟩ x base = (l, b)) :
    Calls Try.prog 69 #[.agg #[.int .i64 room, v], .agg #[.int .u8 (by8 x 0), .int .u8 (by8 x 1), .int .u8 (by8 x 2), .int .u8 (by8 x 3), .int .u8 (by8 x 4), .int .u8 (by8 x 5), .int .u8 (by8 x 6), .int .u8 (by8 x 7)], .int .i64 base] w fun e w' => e = .returned (.tuple #[.string ⟨l.toArray⟩, .bool b]) ∧ Below w.heap.size w w' := by
  have hlen : ∀ j, j < al.length → (al.getD j default).l.length ≤ 9223372036854775807 := fun j hj => by
    have := hbx al[j] (List.getElem_mem hj)
    rw [List.getD_eq_getElem?_getD, List.getElem?_eq_getElem hj]
    simp only [Option.getD_some]
    omega
  have no : seeT ⟨0, al⟩ x base = ([], false) → Calls Try.prog 69 #[.agg #[.int .i64 room, v], .agg #[.int .u8 (by8 x 0), .int .u8 (by8 x 1), .int .u8 (by8 x 2), .int .u8 (by8 x 3), .int .u8 (by8 x 4), .int .u8 (by8 x 5), .int .u8 (by8 x 6), .int .u8 (by8 x 7)], .int .i64 base] w (fun e w' => e = .returned (.tuple #[.string ByteArray.empty, .bool false]) ∧ Below w.heap.size w w') → Calls Try.prog 69 #[.agg #[.int .i64 room, v], .agg #[.int .u8 (by8 x 0), .int .u8 (by8 x 1), .int .u8 (by8 x 2), .int .u8 (by8 x 3), .int .u8 (by8 x 4), .int .u8 (by8 x 5), .int .u8 (by8 x 6), .int .u8 (by8 x 7)], .int .i64 base] w fun e w' => e = .returned (.tuple #[.string ⟨l.toArray⟩, .bool b]) ∧ Below w.heap.size w w' := by
    intro h1 h2
    rw [h1] at hE
    cases hE
    exact h2
  cases hi : idx al (thintF x) with
  | none => exact no (by unfold seeT; simp only [hi]) (rsee_none room v al hn x _ rfl base w hv _ rfl (by unfold atF; rw [hi]))
  | some i =>
    obtain ⟨hlt, -⟩ := idx_some hi
    have hat : atF al (thintF x) = (i : Int) := by unfold atF; rw [hi]
    by_cases ho : (al.getD i default).n ≤ base
    · exact no (by unfold seeT; simp only [hi]; rw [if_pos ho]) (rsee_old room v al hn x _ rfl base w hv _ hat i rfl hlt ho)
    · cases hq : openF (tkeyF x) (al.getD i default).l with
      | mk yl er =>
        by_cases her : er = 0
        · have h1 : seeT ⟨0, al⟩ x base = (yl, true) := by unfold seeT; simp only [hi]; rw [if_neg ho, hq]; simp only; rw [if_pos her]
          rw [h1] at hE
          cases hE
          exact rsee_yes room v al hn x _ rfl base w hv _ hat i rfl hlt ho (hlen i hlt) _ er her hq
        · exact no (by unfold seeT; simp only [hi]; rw [if_neg ho, hq]; simp only; rw [if_neg her]) (rsee_shut room v al hn x _ rfl base w hv _ hat i rfl hlt ho (hlen i hlt) yl er her hq)

end Go.Proofs.Ytghaiplhakeahaa
