/- baizelaw51: the document's tower behind a deed; contract of same. -/
import Derived.Test.YtghaiplhakeahaaYu
import Derived.Test.YtghaiplhakeahaaYw
namespace Go.Proofs.Ytghaiplhakeahaa
set_option linter.unusedSimpArgs false
set_option linter.unusedVariables false
open Go.RowKit Go.WideMaps Go.ChangeMaps Go.Maps

/-! ### The document's row -/
abbrev apT : TypeId := 34
/-- A row that lies in blocks L. -/
def RowIn (v : Value) (al : List AP) (L : List Blk) : Prop := ∃ B D, Row 34 10 v al.length (rall al) B ∧ L.Perm (B ++ D)
theorem RowIn.nil : RowIn (.slice none 0 0) [] [] := ⟨[], [], .void, .nil⟩
theorem RowIn.more {v : Value} {al : List AP} {L : List Blk} (h : RowIn v al L) (S : List Blk) : RowIn v al (S ++ L) := by
  obtain ⟨B, D, h1, h2⟩ := h
  exact ⟨B, S ++ D, h1, (List.Perm.append_left S h2).trans (perm_cnt fun x => by simp only [cnt_append, cnt_cons, cnt_nil] <;> omega)⟩
theorem RowIn.more' {v : Value} {al : List AP} {L : List Blk} (h : RowIn v al L) (S : List Blk) : RowIn v al (L ++ S) := by
  obtain ⟨B, D, h1, h2⟩ := h
  exact ⟨B, D ++ S, h1, (h2.append_right S).trans (perm_cnt fun x => by simp only [cnt_append, cnt_cons, cnt_nil] <;> omega)⟩
theorem RowIn.perm {v : Value} {al : List AP} {L L' : List Blk} (h : RowIn v al L) (hp : L.Perm L') : RowIn v al L' := by
  obtain ⟨B, D, h1, h2⟩ := h
  exact ⟨B, D, h1, hp.symm.trans h2⟩
theorem RowIn.more2 {v : Value} {al : List AP} {N R : List Blk} (h : RowIn v al (N ++ R)) (S : List Blk) : RowIn v al ((N ++ S) ++ R) := (h.more S).perm (perm_cnt fun x => by simp only [cnt_append, cnt_cons, cnt_nil] <;> omega)
theorem RowIn.rsl {v : Value} {al : List AP} {L M : List Blk} {w w0 : World} (h : RowIn v al L) (O : Ow w w0 M) {E : List Blk} (hM : M.Perm (L ++ E)) : RSl w v al := by
  obtain ⟨B, D, h1, h2⟩ := h
  exact h1.rsl (O.perm (L' := B ++ (D ++ E)) (hM.trans ((h2.append_right E).trans (perm_cnt fun x => by simp only [cnt_append, cnt_cons, cnt_nil] <;> omega)))).mem
/-- What a deed makes of a row: it stays, or is another one in new memory. -/
def NewR (base : Nat) (v : Value) (al : List AP) (v' : Value) (al' : List AP) (w' : World) : Prop := (v' = v ∧ al' = al) ∨ Own 34 10 base al'.length (rall al') v' w'
theorem NewR.found {base : Nat} {v v' : Value} {al al' : List AP} {w' : World} {L : List Blk} (h : NewR base v al v' al' w') (hr : RowIn v al L) : ∃ S : List Blk, S.Pairwise (fun x y => x.no ≠ y.no) ∧ (∀ z ∈ S, base ≤ z.no ∧ HasBlk w' z.no z.ty z.cs) ∧ RowIn v' al' (S ++ L) := by
  rcases h with ⟨rfl, rfl⟩ | ⟨ao, cap, B, rfl, h1, h2⟩
  · exact ⟨[], .nil, by simp, hr⟩
  · exact ⟨B, h1.apart, h2, B, L, h1, .refl _⟩
theorem NewR.slice {base : Nat} {v v' : Value} {al al' : List AP} {w' : World} (h : NewR base v al v' al' w') (hv : ∃ ao cap, v = .slice ao al.length cap) : ∃ ao cap, v' = .slice ao al'.length cap := by
  rcases h with ⟨rfl, rfl⟩ | h
  · exact hv
  · exact h.slice
theorem rtake_to (room : Nat) (v : Value) (al : List AP) (hal : al.length ≤ 1000000) (hroom : al.length ≤ room) (a : AP) (w : World) (hv : RSl w v al) (E : Nat) (hE : takeE ⟨room, al⟩ a = E) (al' : List AP) (hT : (takeT ⟨room, al⟩ a).all = al') :
    Calls Try.prog 53 #[.agg #[.int .i64 room, v], rAgg a.h a.n ⟨a.l.toArray⟩] w fun e w' => ∃ v', e = .returned (.tuple #[.agg #[.int .i64 room, v'], .int .i64 E]) ∧ Below w.heap.size w w' ∧ NewR w.heap.size v al v' al' w' := by
  have hsz : ({ data := a.l.toArray } : ByteArray).size = a.l.length := by simp [ByteArray.size]
  have stay : ∀ E0 : Nat, E0 ≠ 0 → takeE ⟨room, al⟩ a = E0 → Calls Try.prog 53 #[.agg #[.int .i64 room, v], rAgg a.h a.n ⟨a.l.toArray⟩] w (fun e w' => e = .returned (.tuple #[.agg #[.int .i64 room, v], .int .i64 E0]) ∧ Below w.heap.size w w') → Calls Try.prog 53 #[.agg #[.int .i64 room, v], rAgg a.h a.n ⟨a.l.toArray⟩] w fun e w' => ∃ v', e = .returned (.tuple #[.agg #[.int .i64 room, v'], .int .i64 E]) ∧ Below w.heap.size w w' ∧ NewR w.heap.size v al v' al' w' := by
    intro E0 h0 h1 h2
    subst hE
    rw [h1]
    refine h2.mono ?_
    rintro e w' ⟨rfl, hb⟩
    refine ⟨v, rfl, hb, .inl ⟨rfl, ?_⟩⟩
    rw [← hT]
    unfold takeT
    rw [if_neg (by rw [h1]; exact h0)]
  obtain ⟨ao, cap, hvv, hcap, -⟩ := hv.slice
  cases hn : isNum a.n with
  | false =>
    refine stay 2 (by omega) (by unfold takeE; rw [if_pos hn]) ?_
    rw [hvv]
    exact rtake_range room ao al.length cap a.h a.n _ hn w
  | true =>
    by_cases h8 : a.l.length < 8
    · refine stay 3 (by omega) (by unfold takeE; rw [if_neg (by simp [hn]), if_pos h8]) ?_
      rw [hvv]
      exact rtake_form room ao al.length cap a.h a.n _ hn (by rw [hsz]; exact h8) w
    · by_cases hl : 32776 < a.l.length
      · refine stay 5 (by omega) (by unfold takeE; rw [if_neg (by simp [hn]), if_neg h8, if_pos hl]) ?_
        rw [hvv]
        exact rtake_long room ao al.length cap a.h a.n _ hn (by rw [hsz]; exact hl) w
      · have hbase : takeE ⟨room, al⟩ a = match idx al a.h with | some i => if a.n ≤ (al.getD i default).n then 18 else 0 | none => if room ≤ al.length then 8 else 0 := by
          unfold takeE
          rw [if_neg (by simp [hn]), if_neg h8, if_neg hl]
          cases idx al a.h <;> rfl
        cases hi : idx al a.h with
        | some i =>
          rw [hi] at hbase
          simp only at hbase
          obtain ⟨hlt, -⟩ := idx_some hi
          have hat : atF al a.h = (i : Int) := by unfold atF; rw [hi]
          by_cases ho : a.n ≤ (al.getD i default).n
          · rw [if_pos ho] at hbase
            exact stay 18 (by omega) hbase (rtake_old room v al hal a.h a.n _ hn (by rw [hsz]; omega) (by rw [hsz]; omega) w hv _ hat i hlt rfl ho)
          · rw [if_neg ho] at hbase
            have hal' : al' = al.set i a := by
              rw [← hT]
              unfold takeT
              rw [if_pos hbase]
              simp only [hi]
            subst hE hal'
            rw [hbase]
            refine (rtake_put room v al hal a.h a.n _ hn (by rw [hsz]; omega) (by rw [hsz]; omega) w hv _ hat a.l rfl i hlt rfl ho).mono ?_
            rintro e w' ⟨v', rfl, hb, hO⟩
            exact ⟨v', rfl, hb, .inr hO⟩
        | none =>
          rw [hi] at hbase
          simp only at hbase
          have hat : atF al a.h = -1 := by unfold atF; rw [hi]
          by_cases hr : al.length = room
          · rw [if_pos (by omega)] at hbase
            exact stay 8 (by omega) hbase (rtake_full room v al hal a.h a.n _ hn (by rw [hsz]; omega) (by rw [hsz]; omega) w hv _ hat rfl hr)
          · rw [if_neg (by omega)] at hbase
            have hal' : al' = al ++ [a] := by
              rw [← hT]
              unfold takeT
              rw [if_pos hbase]
              simp only [hi]
            subst hE hal'
            rw [hbase]
            refine (rtake_add room v al hal a.h a.n _ hn (by rw [hsz]; omega) (by rw [hsz]; omega) w hv _ hat a.l rfl rfl hr).mono ?_
            rintro e w' ⟨v', rfl, hb, hO⟩
            exact ⟨v', rfl, hb, .inr hO⟩
theorem rdrop_to (room : Nat) (v : Value) (al : List AP) (hal : al.length ≤ 1000000) (x : BitVec 64) (w : World) (hv : RSl w v al) (b : Bool) (hb : hadT ⟨room, al⟩ x = b) (al' : List AP) (hT : (dropT ⟨room, al⟩ x).all = al') :
    Calls Try.prog 67 #[.agg #[.int .i64 room, v], .agg #[.int .u8 (by8 x 0), .int .u8 (by8 x 1), .int .u8 (by8 x 2), .int .u8 (by8 x 3), .int .u8 (by8 x 4), .int .u8 (by8 x 5), .int .u8 (by8 x 6), .int .u8 (by8 x 7)]] w fun e w' => ∃ v', e = .returned (.tuple #[.agg #[.int .i64 room, v'], .bool b]) ∧ Below w.heap.size w w' ∧ NewR w.heap.size v al v' al' w' := by
  subst hb hT
  unfold hadT dropT
  cases hi : idx al x with
  | none =>
    have hat : atF al x = -1 := by unfold atF; rw [hi]
    refine (rdrop_none room v al hal x w hv _ hat rfl).mono ?_
    rintro e w' ⟨rfl, hb⟩
    simp only [hi]
    exact ⟨v, rfl, hb, .inl ⟨rfl, rfl⟩⟩
  | some i =>
    obtain ⟨hlt, -⟩ := idx_some hi
    have hat : atF al x = (i : Int) := by unfold atF; rw [hi]
    refine (rdrop_yes room v al hal x w hv _ hat i hlt rfl).mono ?_
    rintro e w' ⟨v', rfl, hb, hO⟩
    simp only [hi]
    exact ⟨v', rfl, hb, .inr hO⟩

/-! ### same -/
/-- Its cells, of elements of several cells each. -/
theorem Own.cel {e : TypeId} {sz base n : Nat} {xs : List Value} {u : Value} {W : World} (h : Own e sz base n xs u W) : ∃ ao cap, u = .slice ao n cap ∧ n ≤ cap ∧ (0 < n → ∃ r, ao = some ⟨r, 0, none⟩ ∧ r < W.heap.size ∧ ∀ j v, xs[j]? = some v → W.cell? ⟨r, j, none⟩ = some v) := by
  obtain ⟨ao, cap, B, rfl, R, hB⟩ := h
  cases R with
  | void => exact ⟨none, 0, rfl, Nat.le_refl _, fun h => by omega⟩
  | one r n cap cur h1 h2 h3 =>
    have hb := (hB _ (List.mem_singleton.2 rfl)).2
    refine ⟨_, cap, rfl, h1, fun _ => ⟨r, rfl, hb.lt, fun j v hj => ?_⟩⟩
    rw [hb.cell]
    rw [List.getElem?_take] at hj
    split at hj
    · simpa using hj
    · cases hj
set_option maxRecDepth 100000 in
set_option maxHeartbeats 4000000 in
theorem same51_to (p : Nat) (T : TWS) (hT : TOk T) (v : Value) (x : BitVec 64) (base : Int) (w w0 : World) (C X : List Blk) (K : List (Nat × Obj)) (H : Tw w w0 C X K p T) (hv : RSl w v T.all) :
    Calls Try.prog 35 #[tptr p, .agg #[.int .i64 T.room, v], .agg #[.int .u8 (by8 x 0), .int .u8 (by8 x 1), .int .u8 (by8 x 2), .int .u8 (by8 x 3), .int .u8 (by8 x 4), .int .u8 (by8 x 5), .int .u8 (by8 x 6), .int .u8 (by8 x 7)], .int .i64 base] w fun e w' => e = .returned (.bool true) ∧ Below w.heap.size w w' := by
  obtain ⟨ao, cap, rfl, hcap, -⟩ := hv.slice
  have hmax : T.all.length ≤ 4096 := Nat.le_trans hT.len hT.room
  obtain ⟨l, b, hS⟩ : ∃ l b, seeT T x base = (l, b) := ⟨_, _, rfl⟩
  have HS := Lib.hid hS
  have HS' : Hid (seeT ⟨0, T.all⟩ x base = (l, b)) := hS
  obtain ⟨s, hs⟩ : ∃ s, sizeT T = s := ⟨_, rfl⟩
  have HZ := Lib.hid hs
  have HZ' : Hid (sizeK T.all T.all.length = s) := (sizeK_all T).trans hs
  have HT := Lib.hid hT
  have HV := Lib.hid hv
  have HH := Lib.hid H
  have HO := Lib.hid (((Ow.start w).key #[.int .i64 T.room, .slice ao T.all.length cap] 72 w.heap.size rfl).key #[.int .u8 (by8 x 0), .int .u8 (by8 x 1), .int .u8 (by8 x 2), .int .u8 (by8 x 3), .int .u8 (by8 x 4), .int .u8 (by8 x 5), .int .u8 (by8 x 6), .int .u8 (by8 x 7)] 22 (w.heap.size + 1) (by simp))
  clear hS hs hT hv H
  go_enter Try.func35, Try.ntmps35
  go_wp2_with fail
  refine (thas_to p T HT.out _ w0 _ _ _ (HH.out.of_below HO.out.below)).mono ?_
  rintro e w1 ⟨u, rfl, hb1, hu⟩
  have HO1 := Lib.hid (HO.out.of_below hb1)
  obtain ⟨au, cu, rfl, hcu, hcel⟩ := hu.cel
  have HC := Lib.hid hcel
  have HH1 := Lib.hid (HH.out.of_below HO1.out.below)
  have HV1 := Lib.hid (HV.out.below HO1.out.below)
  (have hq := HO1.out.has (b := w.heap.size) (t := 72) (cs := #[.int .i64 T.room, .slice ao T.all.length cap]) (by simp)); (have t0 := hq.cell 0); (have t1 := hq.cell 1); (have lt := hq.lt); (simp only [List.getElem?_toArray, List.getElem?_cons_succ, List.getElem?_cons_zero] at t0 t1); clear hq
  (have hq := HO1.out.has (b := w.heap.size + 1) (t := 22) (cs := #[.int .u8 (by8 x 0), .int .u8 (by8 x 1), .int .u8 (by8 x 2), .int .u8 (by8 x 3), .int .u8 (by8 x 4), .int .u8 (by8 x 5), .int .u8 (by8 x 6), .int .u8 (by8 x 7)]) (by simp)); (have x0 := hq.cell 0); (have x1 := hq.cell 1); (have x2 := hq.cell 2); (have x3 := hq.cell 3); (have x4 := hq.cell 4); (have x5 := hq.cell 5); (have x6 := hq.cell 6); (have x7 := hq.cell 7); (have lx := hq.lt); (simp only [List.getElem?_toArray, List.getElem?_cons_succ, List.getElem?_cons_zero] at x0 x1 x2 x3 x4 x5 x6 x7); clear hq
  clear hb1 hu hcel HO HH HV
  have hne : (((T.all.length : Nat) : Int) != (T.all.length : Int)) = false := by simp
  have hne2 : (((s : Nat) : Int) != (s : Int)) = false := by simp
  have T1 : Hid (∀ g d, Calls Try.prog 36 #[tptr p] (plus w1 g d) fun e w' => e = .returned (.int .i64 s) ∧ Below (plus w1 g d).heap.size (plus w1 g d) w') := fun g d => tsize_to p T HT.out _ w0 _ _ _ (HH1.out.plus g d) s HZ.out
  have T2 : Hid (∀ g d, Calls Try.prog 68 #[.agg #[.int .i64 T.room, .slice ao T.all.length cap]] (plus w1 g d) fun e w' => e = .returned (.int .i64 s) ∧ Below (plus w1 g d).heap.size (plus w1 g d) w') := fun g d => rsize_to _ _ T.all (by omega) HT.out.box _ (HV1.out.plus g d) s HZ'.out
  go_wp2_with fail
  refine wp_region_rq (by kernel_rfl) (by kernel_rfl) (by kernel_rfl) ?_
  repeat (first
    | (refine B_skip ?_ ?_; (· rfl); (try simp only [Act.put, List.setIfInBounds_toArray, List.set_cons_zero, List.set_cons_succ]))
    | (refine B_move rfl ?_ ?_; (· rfl); (try simp only [Act.eval, Act.put, Array.getD_eq_getD_getElem?, List.getElem?_toArray, List.getElem?_cons_succ, List.getElem?_cons_zero, Option.getD_some, List.setIfInBounds_toArray, List.set_cons_zero, List.set_cons_succ]))
    | (refine B_plain ?_ ?_; (· rfl); intro K hK; go_big_quiet_op; with_reducible refine hK _ ?_; clear hK K)
    | (refine B_callX (v := ?_) (f := 36) rfl (by kernel_rfl) ?_ (fun xq => ?_) ?_; rotate_left; (· rfl); (· ((simp only [List.map_toArray, List.map_cons, List.map_nil, Act.eval, Array.getD_eq_getD_getElem?, List.getElem?_toArray, List.getElem?_cons_succ, List.getElem?_cons_zero, Option.getD_some]); with_reducible apply retB; with_reducible exact (T1.out _ _))); (try simp only [Act.put, List.setIfInBounds_toArray, List.set_cons_zero, List.set_cons_succ]))
    | (refine B_callX (v := ?_) (f := 68) rfl (by kernel_rfl) ?_ (fun xq => ?_) ?_; rotate_left; (· rfl); (· ((simp only [List.map_toArray, List.map_cons, List.map_nil, Act.eval, Array.getD_eq_getD_getElem?, List.getElem?_toArray, List.getElem?_cons_succ, List.getElem?_cons_zero, Option.getD_some]); with_reducible apply retB; with_reducible exact (T2.out _ _))); (try simp only [Act.put, List.setIfInBounds_toArray, List.set_cons_zero, List.set_cons_succ])))
  refine B_nil ?_ rfl ?_ ?_
  · kernel_rfl
  · rfl
  rintro _ ⟨⟨g2, d2⟩, rfl⟩
  simp only [fin, Act.put, List.setIfInBounds_toArray, List.set_cons_zero, List.set_cons_succ]
  clear t0 t1 lt
  clear x0 x1 x2 x3 x4 x5 x6 x7 lx
  go_wp2_with fail
  go_loopw [10] (fun vi wr => ∃ i : Nat, vi = .int .i64 i ∧ i ≤ T.all.length ∧ Below w1.heap.size w1 wr) (fun vi _ => T.all.length - (intOf vi).toNat)
  case atStart => exact ⟨0, rfl, by omega, by (repeat' (first | (with_reducible exact Below.refl _ _) | (with_reducible refine bplus ?_ _ _) | (with_reducible refine balloc ?_ _) | (with_reducible refine Below.drew ?_) | (with_reducible refine bdrewN ?_ _) | (with_reducible refine Below.setCell ?_ (by go_size) _)))⟩
  case round =>
    obtain ⟨i, rfl, hi, hB⟩ := hrel
    have HOr := Lib.hid (HO1.out.of_below hB)
    have HBr := Lib.hid hB
    have hold : ∀ r, r < w1.heap.size → ∀ {j}, wr.cell? ⟨r, j, none⟩ = w1.cell? ⟨r, j, none⟩ := fun r hr {j} => World.cell?_of_block (a := ⟨r, j, none⟩) (hB.block _ hr)
    have hsz : w1.heap.size ≤ wr.heap.size := hB.size
    (have hq := HOr.out.has (b := w.heap.size) (t := 72) (cs := #[.int .i64 T.room, .slice ao T.all.length cap]) (by simp)); (have t0 := hq.cell 0); (have t1 := hq.cell 1); (have lt := hq.lt); (simp only [List.getElem?_toArray, List.getElem?_cons_succ, List.getElem?_cons_zero] at t0 t1); clear hq
    clear hB T1 T2
    by_cases hlt : i < T.all.length
    · obtain ⟨r, o, rfl, hr, hcell⟩ := HV1.out.elem hlt
      obtain ⟨ru, rfl, hru, hcu⟩ := HC.out (by omega)
      have hrr : r < wr.heap.size := Nat.lt_of_lt_of_le hr hsz
      have hrru : ru < wr.heap.size := Nat.lt_of_lt_of_le hru hsz
      obtain ⟨y, hy⟩ : ∃ y, T.all.getD i default = y := ⟨_, rfl⟩
      rw [hy] at hcell
      have hdg : ∀ j, j < 8 → w1.cell? ⟨ru, i * 8 + j, none⟩ = some (.int .u8 (by8 y.h j)) := fun j hj => by
        refine hcu _ _ ?_
        rw [dall_get (hintsT T) i (by simpa [hintsT] using hlt) j hj, ← hy]
        congr 4
        simp [hintsT, List.getD_eq_getElem?_getD, hlt]
      have a0 : wr.cell? ⟨r, o + i * 10, none⟩ = some (.int .u8 (by8 y.h 0)) := by rw [hold r hr]; exact hcell 0 _ rfl
      have b0 : wr.cell? ⟨ru, i * 8, none⟩ = some (.int .u8 (by8 y.h 0)) := by rw [hold ru hru]; exact hdg 0 (by omega)
      have a1 : wr.cell? ⟨r, o + i * 10 + 1, none⟩ = some (.int .u8 (by8 y.h 1)) := by rw [hold r hr]; exact hcell 1 _ rfl
      have b1 : wr.cell? ⟨ru, i * 8 + 1, none⟩ = some (.int .u8 (by8 y.h 1)) := by rw [hold ru hru]; exact hdg 1 (by omega)
      have a2 : wr.cell? ⟨r, o + i * 10 + 2, none⟩ = some (.int .u8 (by8 y.h 2)) := by rw [hold r hr]; exact hcell 2 _ rfl
      have b2 : wr.cell? ⟨ru, i * 8 + 2, none⟩ = some (.int .u8 (by8 y.h 2)) := by rw [hold ru hru]; exact hdg 2 (by omega)
      have a3 : wr.cell? ⟨r, o + i * 10 + 3, none⟩ = some (.int .u8 (by8 y.h 3)) := by rw [hold r hr]; exact hcell 3 _ rfl
      have b3 : wr.cell? ⟨ru, i * 8 + 3, none⟩ = some (.int .u8 (by8 y.h 3)) := by rw [hold ru hru]; exact hdg 3 (by omega)
      have a4 : wr.cell? ⟨r, o + i * 10 + 4, none⟩ = some (.int .u8 (by8 y.h 4)) := by rw [hold r hr]; exact hcell 4 _ rfl
      have b4 : wr.cell? ⟨ru, i * 8 + 4, none⟩ = some (.int .u8 (by8 y.h 4)) := by rw [hold ru hru]; exact hdg 4 (by omega)
      have a5 : wr.cell? ⟨r, o + i * 10 + 5, none⟩ = some (.int .u8 (by8 y.h 5)) := by rw [hold r hr]; exact hcell 5 _ rfl
      have b5 : wr.cell? ⟨ru, i * 8 + 5, none⟩ = some (.int .u8 (by8 y.h 5)) := by rw [hold ru hru]; exact hdg 5 (by omega)
      have a6 : wr.cell? ⟨r, o + i * 10 + 6, none⟩ = some (.int .u8 (by8 y.h 6)) := by rw [hold r hr]; exact hcell 6 _ rfl
      have b6 : wr.cell? ⟨ru, i * 8 + 6, none⟩ = some (.int .u8 (by8 y.h 6)) := by rw [hold ru hru]; exact hdg 6 (by omega)
      have a7 : wr.cell? ⟨r, o + i * 10 + 7, none⟩ = some (.int .u8 (by8 y.h 7)) := by rw [hold r hr]; exact hcell 7 _ rfl
      have b7 : wr.cell? ⟨ru, i * 8 + 7, none⟩ = some (.int .u8 (by8 y.h 7)) := by rw [hold ru hru]; exact hdg 7 (by omega)
      have hnn : (y.h != y.h) = false := by simp
      have hnq : (y.h == y.h) = true := by simp
      clear hcell hdg hcu hy hold hsz
      go_wp2_with fail
      refine wp_region_rq (by kernel_rfl) (by kernel_rfl) (by kernel_rfl) ?_
      repeat (first
        | (refine B_skip ?_ ?_; (· rfl); (try simp only [Act.put, List.setIfInBounds_toArray, List.set_cons_zero, List.set_cons_succ]))
        | (refine B_move rfl ?_ ?_; (· rfl); (try simp only [Act.eval, Act.put, Array.getD_eq_getD_getElem?, List.getElem?_toArray, List.getElem?_cons_succ, List.getElem?_cons_zero, Option.getD_some, List.setIfInBounds_toArray, List.set_cons_zero, List.set_cons_succ]))
        | (refine B_plain ?_ ?_; (· rfl); intro K hK; go_big_quiet_op; with_reducible refine hK _ ?_; clear hK K)
        | (fail))
      refine B_nil ?_ rfl ?_ ?_
      · kernel_rfl
      · rfl
      rintro _ ⟨⟨g7, d7⟩, rfl⟩
      simp only [fin, Act.put, List.setIfInBounds_toArray, List.set_cons_zero, List.set_cons_succ]
      go_wp2
      exact ⟨⟨i + 1, by simp, by omega, by (repeat' (first | (with_reducible exact Below.refl _ _) | (with_reducible refine bplus ?_ _ _) | (with_reducible refine balloc ?_ _) | (with_reducible refine Below.drew ?_) | (with_reducible refine bdrewN ?_ _) | (with_reducible refine Below.setCell ?_ (by go_size) _))); exact HBr.out⟩, by simp [intOf]; omega⟩
    · obtain rfl : i = T.all.length := by omega
      (have hq := HOr.out.has (b := w.heap.size + 1) (t := 22) (cs := #[.int .u8 (by8 x 0), .int .u8 (by8 x 1), .int .u8 (by8 x 2), .int .u8 (by8 x 3), .int .u8 (by8 x 4), .int .u8 (by8 x 5), .int .u8 (by8 x 6), .int .u8 (by8 x 7)]) (by simp)); (have x0 := hq.cell 0); (have x1 := hq.cell 1); (have x2 := hq.cell 2); (have x3 := hq.cell 3); (have x4 := hq.cell 4); (have x5 := hq.cell 5); (have x6 := hq.cell 6); (have x7 := hq.cell 7); (have lx := hq.lt); (simp only [List.getElem?_toArray, List.getElem?_cons_succ, List.getElem?_cons_zero] at x0 x1 x2 x3 x4 x5 x6 x7); clear hq
      clear hold hsz
      go_wp2_with fail
      refine (see_to p T HT.out x base _ w0 _ _ _ (HH1.out.of_below HBr.out) l b HS.out).mono ?_
      rintro e w3 ⟨u3, rfl, hb3, hu3⟩
      have HB3 := Lib.hid (HBr.out.trans (hb3.mono HBr.out.size))
      have HO3 := Lib.hid (HOr.out.of_below hb3)
      have HU3 := Lib.hid hu3.bsl
      clear t0 t1 lt
      clear x0 x1 x2 x3 x4 x5 x6 x7 lx
      (have hq := HO3.out.has (b := w.heap.size) (t := 72) (cs := #[.int .i64 T.room, .slice ao T.all.length cap]) (by simp)); (have t0 := hq.cell 0); (have t1 := hq.cell 1); (have lt := hq.lt); (simp only [List.getElem?_toArray, List.getElem?_cons_succ, List.getElem?_cons_zero] at t0 t1); clear hq
      (have hq := HO3.out.has (b := w.heap.size + 1) (t := 22) (cs := #[.int .u8 (by8 x 0), .int .u8 (by8 x 1), .int .u8 (by8 x 2), .int .u8 (by8 x 3), .int .u8 (by8 x 4), .int .u8 (by8 x 5), .int .u8 (by8 x 6), .int .u8 (by8 x 7)]) (by simp)); (have x0 := hq.cell 0); (have x1 := hq.cell 1); (have x2 := hq.cell 2); (have x3 := hq.cell 3); (have x4 := hq.cell 4); (have x5 := hq.cell 5); (have x6 := hq.cell 6); (have x7 := hq.cell 7); (have lx := hq.lt); (simp only [List.getElem?_toArray, List.getElem?_cons_succ, List.getElem?_cons_zero] at x0 x1 x2 x3 x4 x5 x6 x7); clear hq
      clear hb3 hu3 HOr
      go_wp2_with fail
      refine (rsee_to T.room _ T.all (by omega) HT.out.box x base _ (HV1.out.below HB3.out) l b HS'.out).mono ?_
      rintro e w4 ⟨rfl, hb4⟩
      obtain ⟨sl, hsl⟩ : ∃ sl, ({ data := l.toArray } : ByteArray) = sl := ⟨_, rfl⟩
      have hcv := run_strT w4 u3 l (HU3.out.below hb4)
      rw [hsl] at hcv ⊢
      have hss : (sl == sl) = true := by rw [← hsl, beqS]; simp
      have hbb : (b == b) = true := by cases b <;> rfl
      have HB4 := Lib.hid (HO3.out.of_below hb4).below
      clear t0 t1 lt
      clear x0 x1 x2 x3 x4 x5 x6 x7 lx
      clear hb4 hsl
      go_wp2
      go_ret
      exact ⟨rfl, HB4.out⟩

theorem Tw.storeB {P : Program} {o : Oper} {a : Act} {Q : Exit → Act → World → Prop} {K' : Act → World → Prop} {w w0 : World} {C X : List Blk} {K : List (Nat × Obj)} {p : Nat} {T : TWS} {b : Nat} {t : TypeId} {cs : Array Value} (h : Tw w w0 (⟨b, t, cs⟩ :: C) X K p T) (ty : TypeId) (x y : Operand) (ho : o.op = .store ty x y)
    (hx : a.eval x = .pointer (some ⟨b, 0, none⟩)) (vs : Array Value) (hy : a.eval y = .agg vs) (hi : (P.info? ty).map (·.size) = some vs.size) (hs : vs.size = cs.size) (h1 : ∀ v ∈ vs.toList, v.oneCell' = true)
    (k : ∀ w', Tw w' w0 (⟨b, t, vs⟩ :: C) X K p T → K' (a.put o.dst undef) w') : o.wp P a w K' Q := by
  obtain ⟨B, kk, O, D⟩ := h
  have O1 : Omw w w0 (⟨b, t, cs⟩ :: (B ++ (C ++ X))) (kk :: K) := O.perm (perm_cnt fun x => by simp only [cnt_append, cnt_cons, cnt_nil] <;> omega)
  refine O1.storeAt ty x y ho 0 hx vs hy hi (by omega) h1 fun w' O' => k w' ⟨B, kk, ?_, D⟩
  rw [writeAt_all _ _ (by simpa using hs)] at O'
  have O2 : Omw w' w0 (⟨b, t, vs⟩ :: (B ++ (C ++ X))) (kk :: K) := by simpa using O'
  exact O2.perm (perm_cnt fun x => by simp only [cnt_append, cnt_cons, cnt_nil] <;> omega)
theorem Tw.storeBL {P : Program} {ops : Array Oper} {rest : List Oper} {o : Oper} {a : Act} {Q : Exit → Act → World → Prop} {w w0 : World} {C X : List Blk} {K : List (Nat × Obj)} {p : Nat} {T : TWS} {b : Nat} {t : TypeId} {cs : Array Value} (h : Tw w w0 (⟨b, t, cs⟩ :: C) X K p T) (hgd : o.guard = none) (ty : TypeId) (x y : Operand) (ho : o.op = .store ty x y)
    (hx : a.eval x = .pointer (some ⟨b, 0, none⟩)) (vs : Array Value) (hy : a.eval y = .agg vs) (hi : (P.info? ty).map (·.size) = some vs.size) (hs : vs.size = cs.size) (h1 : ∀ v ∈ vs.toList, v.oneCell' = true)
    (k : ∀ w', Tw w' w0 (⟨b, t, vs⟩ :: C) X K p T → wpList P ops Q rest (a.put o.dst undef) w') : wpList P ops Q (o :: rest) a w :=
  wpList_plain hgd fun _ hK => h.storeB ty x y ho hx vs hy hi hs h1 fun w' h' => hK _ _ (k w' h')
theorem Tw.foundC {w w0 W : World} {C X N : List Blk} {K : List (Nat × Obj)} {p : Nat} {T : TWS} (h : Tw W w0 C X K p T) (hx : Ext W w) (hp : N.Pairwise (fun x y => x.no ≠ y.no)) (hb : ∀ x ∈ N, W.heap.size ≤ x.no ∧ HasBlk w x.no x.ty x.cs) : Tw w w0 (N ++ C) X K p T := h.found hx hp hb
theorem updS (L : Nat → Bool) (i : Nat) : upd L i i = true := by simp [upd]
theorem updN (L : Nat → Bool) {i j : Nat} (h : j ≠ i) : upd L i j = L j := by simp [upd, h]
theorem eqB_tt (a : Bool) : (a == a) = true := by cases a <;> rfl
/-- A tower behind a deed. -/
noncomputable def actT (T : TWS) (d : DeedV) : TWS := if d.drop = true then dropT T (thintF d.nonce) else takeT T (madeA d)
/-- The program's tower at p, the document's at q. -/
def Bo (w w0 : World) (C X : List Blk) (p q : Nat) (T : TWS) : Prop := ∃ v L, RowIn v T.all L ∧ Tw w w0 (⟨q, 72, #[.int .i64 T.room, v]⟩ :: (L ++ C)) X [] p T
theorem RowIn.slice {v : Value} {al : List AP} {L : List Blk} (h : RowIn v al L) : ∃ ao cap, v = .slice ao al.length cap := by
  obtain ⟨B, D, h1, -⟩ := h; exact h1.slice
theorem Tw.rsl {w w0 : World} {C C' X L : List Blk} {K : List (Nat × Obj)} {p : Nat} {T : TWS} {v : Value} {al : List AP} (h : Tw w w0 C X K p T) (hr : RowIn v al L) (hC : C.Perm (L ++ C')) : RSl w v al := by
  obtain ⟨B, k, O, -⟩ := h
  exact hr.rsl O.ow (E := B ++ (C' ++ X)) (((hC.append_right X).append_left B).trans (perm_cnt fun x => by simp only [cnt_append, cnt_cons, cnt_nil] <;> omega))
set_option maxRecDepth 100000 in
set_option maxHeartbeats 8000000 in
theorem do51_drop (p q : Nat) (T : TWS) (hT : TOk T) (rw_ : Bool) (nx : BitVec 64) (m : Int) (s : ByteArray) (w w0 : World) (C X : List Blk) (H : Bo w w0 C X p q T) :
    Calls Try.prog 34 #[tptr p, tptr q, .agg #[.bool true, .bool rw_, .int .u8 (by8 nx 0), .int .u8 (by8 nx 1), .int .u8 (by8 nx 2), .int .u8 (by8 nx 3), .int .u8 (by8 nx 4), .int .u8 (by8 nx 5), .int .u8 (by8 nx 6), .int .u8 (by8 nx 7), .int .i64 m, .string s]] w fun e w' => e = .returned (.bool true) ∧ ∃ N, Bo w' w0 C (N ++ X) p q (dropT T (thintF nx)) := by
  obtain ⟨v, R, hri, h0⟩ := H
  obtain ⟨ao, cap, rfl⟩ := hri.slice
  have hmax : T.all.length ≤ 4096 := Nat.le_trans hT.len hT.room
  have HT := Lib.hid hT
  have HRI := Lib.hid hri
  obtain ⟨h, HX⟩ : ∃ h, Hid (thintF nx = h) := ⟨_, rfl⟩
  rw [HX.out]
  obtain ⟨b, HB⟩ : ∃ b, Hid (hadT ⟨T.room, T.all⟩ h = b) := ⟨_, rfl⟩
  obtain ⟨T', hT'⟩ : ∃ T', dropT T h = T' := ⟨_, rfl⟩
  obtain ⟨al', hal'⟩ : ∃ al', T'.all = al' := ⟨_, rfl⟩
  rw [hT']
  have HT' : Hid ((dropT ⟨T.room, T.all⟩ h).all = al') := by show _ = _; rw [← hal', ← hT']
  have HTT := Lib.hid hT'
  have HRM : Hid (T'.room = T.room) := by show _ = _; rw [← hT', drop_room]
  obtain ⟨M, HM⟩ : ∃ M, Hid (al'.length = M) := ⟨_, rfl⟩
  have HAL := Lib.hid hal'
  have HH := Lib.hid (h0.park (cs := #[.bool true, .bool rw_, .int .u8 (by8 nx 0), .int .u8 (by8 nx 1), .int .u8 (by8 nx 2), .int .u8 (by8 nx 3), .int .u8 (by8 nx 4), .int .u8 (by8 nx 5), .int .u8 (by8 nx 6), .int .u8 (by8 nx 7), .int .i64 m, .string s]) (t := 52) (b := w.heap.size) rfl)
  clear hri h0 hT hT' hal'
  go_enter Try.func34, Try.ntmps34
  obtain ⟨bd, hbd⟩ : ∃ bd, bd = w.heap.size := ⟨_, rfl⟩
  go_wp2_with fail
  simp only [← hbd] at HH ⊢
  clear hbd
  refine wp_region_o2 [14, 15, 16, 17, 18, 19, 20, 13, 21, 22, 7, 8] (fun L (x : (Option Addr × Nat) × Nat) => [(L 0, 14, tptr q), (L 1, 15, tptr q), (L 2, 16, .agg #[.int .i64 T.room, .slice ao T.all.length cap]), (L 3, 17, .pointer (some ⟨bd, 2, none⟩)), (L 4, 18, .agg #[.int .u8 (by8 nx 0), .int .u8 (by8 nx 1), .int .u8 (by8 nx 2), .int .u8 (by8 nx 3), .int .u8 (by8 nx 4), .int .u8 (by8 nx 5), .int .u8 (by8 nx 6), .int .u8 (by8 nx 7)]), (L 5, 19, .agg #[.int .u8 (by8 h 0), .int .u8 (by8 h 1), .int .u8 (by8 h 2), .int .u8 (by8 h 3), .int .u8 (by8 h 4), .int .u8 (by8 h 5), .int .u8 (by8 h 6), .int .u8 (by8 h 7)]), (L 6, 20, bif L 6 then .tuple #[.agg #[.int .i64 T.room, .slice x.1.1 M x.1.2], .bool b] else undef), (L 7, 13, bif L 7 then .tuple #[.agg #[.int .i64 T.room, .slice x.1.1 M x.1.2], .bool b] else undef), (L 8, 21, bif L 8 then .agg #[.int .i64 T.room, .slice x.1.1 M x.1.2] else undef), (L 9, 22, .bool b), (L 10, 7, bif L 10 then tptr x.2 else undef), (L 12, 8, .bool b)])
    (fun L x W => ∃ S : List Blk, (L 6 = true → RowIn (.slice x.1.1 M x.1.2) al' (S ++ R)) ∧ Tw W w0 ((bif L 10 then [⟨x.2, 72, bif L 11 then #[.int .i64 T.room, .slice x.1.1 M x.1.2] else #[.int .i64 0, .slice none 0 0]⟩] else []) ++ (S ++ (⟨bd, 52, #[.bool true, .bool rw_, .int .u8 (by8 nx 0), .int .u8 (by8 nx 1), .int .u8 (by8 nx 2), .int .u8 (by8 nx 3), .int .u8 (by8 nx 4), .int .u8 (by8 nx 5), .int .u8 (by8 nx 6), .int .u8 (by8 nx 7), .int .i64 m, .string s]⟩ :: (⟨q, 72, #[.int .i64 T.room, .slice ao T.all.length cap]⟩ :: (R ++ C))))) X [] p T) ((none, 0), 0) (by kernel_rfl) (by kernel_rfl) 52 (by rfl) (fun _ _ => rfl) (by kernel_rfl) (by kernel_rfl) (by kernel_rfl) (by rfl) ⟨[], fun hx => (by simp at hx), HH.out.drew⟩ ?_ ⟨?_, ?_, ?_, ?_, ?_, ?_, ?_, ?_, ?_, ?_, ?_, ?_, ?_, trivial⟩
  rotate_left
  · (intro L x W hW hC hL hd B K hB hK; (try simp [depsB, Region.binds] at hd); (try simp only [Nat.reduceAdd] at hK hL); (have e1 := hB.out 1); (simp (decide := true) only [look, if_true, if_false, hd, cond_true, cond_false, Array.getD_eq_getD_getElem?, List.getElem?_toArray, List.getElem?_cons_succ, List.getElem?_cons_zero, Option.getD_some] at e1); go_simp; exact hK.out (tptr q) x W (by simp (decide := true) [putO, setF, upd]) hW)
  · (intro L x W hW hC hL hd B K hB hK; (try simp [depsB, Region.binds] at hd); (try simp only [Nat.reduceAdd] at hK hL); (have e14 := hB.out 14); (simp (decide := true) only [look, if_true, if_false, hd, cond_true, cond_false, Array.getD_eq_getD_getElem?, List.getElem?_toArray, List.getElem?_cons_succ, List.getElem?_cons_zero, Option.getD_some] at e14); go_simp; exact hK.out (tptr q) x W (by simp (decide := true) [putO, setF, upd]) hW)
  · (intro L x W hW hC hL hd B K hB hK; (try simp [depsB, Region.binds] at hd); (try simp only [Nat.reduceAdd] at hK hL); (have e15 := hB.out 15); (simp (decide := true) only [look, if_true, if_false, hd, cond_true, cond_false, Array.getD_eq_getD_getElem?, List.getElem?_toArray, List.getElem?_cons_succ, List.getElem?_cons_zero, Option.getD_some] at e15); (have hW0 := hW); (obtain ⟨S, hS, hN⟩ := hW0); (have hq := hN.has (b := q) (t := 72) (cs := #[.int .i64 T.room, .slice ao T.all.length cap]) (by simp)); (have q0 := hq.cell 0); (have q1 := hq.cell 1); (have lq := hq.lt); (simp only [List.getElem?_toArray, List.getElem?_cons_succ, List.getElem?_cons_zero] at q0 q1); clear hq; clear hS hN; go_simp; exact hK.out (.agg #[.int .i64 T.room, .slice ao T.all.length cap]) x W (by simp (decide := true) [putO, setF, upd]) hW)
  · (intro L x W hW hC hL hd B K hB hK; (try simp [depsB, Region.binds] at hd); (try simp only [Nat.reduceAdd] at hK hL); (have e5 := hB.out 5); (simp (decide := true) only [look, if_true, if_false, hd, cond_true, cond_false, Array.getD_eq_getD_getElem?, List.getElem?_toArray, List.getElem?_cons_succ, List.getElem?_cons_zero, Option.getD_some] at e5); go_simp; exact hK.out (.pointer (some ⟨bd, 2, none⟩)) x W (by simp (decide := true) [putO, setF, upd]) hW)
  · (intro L x W hW hC hL hd B K hB hK; (try simp [depsB, Region.binds] at hd); (try simp only [Nat.reduceAdd] at hK hL); (have e17 := hB.out 17); (simp (decide := true) only [look, if_true, if_false, hd, cond_true, cond_false, Array.getD_eq_getD_getElem?, List.getElem?_toArray, List.getElem?_cons_succ, List.getElem?_cons_zero, Option.getD_some] at e17); (have hW0 := hW); (obtain ⟨S, hS, hN⟩ := hW0); (have hq := hN.has (b := bd) (t := 52) (cs := #[.bool true, .bool rw_, .int .u8 (by8 nx 0), .int .u8 (by8 nx 1), .int .u8 (by8 nx 2), .int .u8 (by8 nx 3), .int .u8 (by8 nx 4), .int .u8 (by8 nx 5), .int .u8 (by8 nx 6), .int .u8 (by8 nx 7), .int .i64 m, .string s]) (by simp)); (have q0 := hq.cell 0); (have q1 := hq.cell 1); (have q2 := hq.cell 2); (have q3 := hq.cell 3); (have q4 := hq.cell 4); (have q5 := hq.cell 5); (have q6 := hq.cell 6); (have q7 := hq.cell 7); (have q8 := hq.cell 8); (have q9 := hq.cell 9); (have q10 := hq.cell 10); (have q11 := hq.cell 11); (have lq := hq.lt); (simp only [List.getElem?_toArray, List.getElem?_cons_succ, List.getElem?_cons_zero] at q0 q1 q2 q3 q4 q5 q6 q7 q8 q9 q10 q11); clear hq; clear hS hN; go_simp; exact hK.out (.agg #[.int .u8 (by8 nx 0), .int .u8 (by8 nx 1), .int .u8 (by8 nx 2), .int .u8 (by8 nx 3), .int .u8 (by8 nx 4), .int .u8 (by8 nx 5), .int .u8 (by8 nx 6), .int .u8 (by8 nx 7)]) x W (by simp (decide := true) [putO, setF, upd]) hW)
  · intro L x W hW hC hL hd B K hB hK; (try simp [depsB, Region.binds] at hd); (try simp only [Nat.reduceAdd] at hK hL)
    (have e18 := hB.out 18); (simp (decide := true) only [look, if_true, if_false, hd, cond_true, cond_false, Array.getD_eq_getD_getElem?, List.getElem?_toArray, List.getElem?_cons_succ, List.getElem?_cons_zero, Option.getD_some] at e18)
    obtain ⟨S, hS, hN⟩ := hW
    refine wp_call_in 19 (by rfl) (by kernel_rfl) #[.agg #[.int .u8 (by8 nx 0), .int .u8 (by8 nx 1), .int .u8 (by8 nx 2), .int .u8 (by8 nx 3), .int .u8 (by8 nx 4), .int .u8 (by8 nx 5), .int .u8 (by8 nx 6), .int .u8 (by8 nx 7)]] (by simp [Act.eval, e18]) ((rhint_to nx h HX.out W).mono ?_)
    rintro e W4 ⟨rfl, hb4⟩
    refine ⟨_, rfl, ?_⟩
    exact hK.out (.agg #[.int .u8 (by8 h 0), .int .u8 (by8 h 1), .int .u8 (by8 h 2), .int .u8 (by8 h 3), .int .u8 (by8 h 4), .int .u8 (by8 h 5), .int .u8 (by8 h 6), .int .u8 (by8 h 7)]) x W4 (by simp (decide := true) [putO, setF, upd]) ⟨S, fun hx => hS (by simpa [upd] using hx), by simpa [upd] using hN.of_below hb4⟩
  · intro L x W hW hC hL hd B K hB hK; (try simp [depsB, Region.binds] at hd); (try simp only [Nat.reduceAdd] at hK hL)
    (have e16 := hB.out 16); (simp (decide := true) only [look, if_true, if_false, hd, cond_true, cond_false, Array.getD_eq_getD_getElem?, List.getElem?_toArray, List.getElem?_cons_succ, List.getElem?_cons_zero, Option.getD_some] at e16); (have e19 := hB.out 19); (simp (decide := true) only [look, if_true, if_false, hd, cond_true, cond_false, Array.getD_eq_getD_getElem?, List.getElem?_toArray, List.getElem?_cons_succ, List.getElem?_cons_zero, Option.getD_some] at e19)
    have h7 : L 7 = false := by cases hl : L 7 with | false => rfl | true => have hx := hC 7 _ rfl hl; simp [depsB, Region.binds, hL] at hx
    have h8 : L 8 = false := by cases hl : L 8 with | false => rfl | true => have hx := hC 8 _ rfl hl; simp [depsB, Region.binds, h7] at hx
    have h11 : L 11 = false := by cases hl : L 11 with | false => rfl | true => have hx := hC 11 _ rfl hl; simp [depsB, Region.binds, hL] at hx
    obtain ⟨S, hS, hN⟩ := hW
    simp only [h11, cond_false] at hN
    refine wp_call_in 67 (by rfl) (by kernel_rfl) #[.agg #[.int .i64 T.room, .slice ao T.all.length cap], .agg #[.int .u8 (by8 h 0), .int .u8 (by8 h 1), .int .u8 (by8 h 2), .int .u8 (by8 h 3), .int .u8 (by8 h 4), .int .u8 (by8 h 5), .int .u8 (by8 h 6), .int .u8 (by8 h 7)]] (by simp [Act.eval, e16, e19]) ((rdrop_to T.room (.slice ao T.all.length cap) T.all (by omega) h W (hN.rsl HRI.out (C' := (bif L 10 then [⟨x.2, 72, #[.int .i64 0, .slice none 0 0]⟩] else []) ++ (S ++ (⟨bd, 52, #[.bool true, .bool rw_, .int .u8 (by8 nx 0), .int .u8 (by8 nx 1), .int .u8 (by8 nx 2), .int .u8 (by8 nx 3), .int .u8 (by8 nx 4), .int .u8 (by8 nx 5), .int .u8 (by8 nx 6), .int .u8 (by8 nx 7), .int .i64 m, .string s]⟩ :: (⟨q, 72, #[.int .i64 T.room, .slice ao T.all.length cap]⟩ :: C)))) ?_) b HB.out al' HT'.out).mono ?_)
    · exact (perm_cnt fun x => by simp only [cnt_append, cnt_cons, cnt_nil] <;> omega)
    rintro e W4 ⟨v', rfl, hb4, hnr⟩
    refine ⟨_, rfl, ?_⟩
    obtain ⟨N4, hp4, hx4, hr4⟩ := hnr.found HRI.out
    obtain ⟨a4, c4, rfl⟩ := hr4.slice
    rw [HM.out] at hr4 ⊢
    have hN4 := hN.foundC (Ext.of_below hb4) hp4 hx4
    refine hK.out (.tuple #[.agg #[.int .i64 T.room, .slice a4 M c4], .bool b]) ((a4, c4), x.2) W4 (by simp (decide := true) [putO, setF, upd, h7, h8]) ⟨N4 ++ S, fun _ => ?_, ?_⟩
    · exact hr4.more2 S
    simp only [updN L (show (10 : Nat) ≠ 6 by decide), updN L (show (11 : Nat) ≠ 6 by decide), h11, cond_false]
    exact hN4.permC (perm_cnt fun x => by simp only [cnt_append, cnt_cons, cnt_nil] <;> omega)
  · (intro L x W hW hC hL hd B K hB hK; (try simp [depsB, Region.binds] at hd); (try simp only [Nat.reduceAdd] at hK hL); (have e20 := hB.out 20); (simp (decide := true) only [look, if_true, if_false, hd, cond_true, cond_false, Array.getD_eq_getD_getElem?, List.getElem?_toArray, List.getElem?_cons_succ, List.getElem?_cons_zero, Option.getD_some] at e20); go_simp; exact hK.out (.tuple #[.agg #[.int .i64 T.room, .slice x.1.1 M x.1.2], .bool b]) x W (by simp (decide := true) [putO, setF, upd]) hW)
  · (intro L x W hW hC hL hd B K hB hK; (try simp [depsB, Region.binds] at hd); (try simp only [Nat.reduceAdd] at hK hL); (have e13 := hB.out 13); (simp (decide := true) only [look, if_true, if_false, hd, cond_true, cond_false, Array.getD_eq_getD_getElem?, List.getElem?_toArray, List.getElem?_cons_succ, List.getElem?_cons_zero, Option.getD_some] at e13); go_simp; exact hK.out (.agg #[.int .i64 T.room, .slice x.1.1 M x.1.2]) x W (by simp (decide := true) [putO, setF, upd]) hW)
  · (intro L x W hW hC hL hd B K hB hK; (try simp [depsB, Region.binds] at hd); (try simp only [Nat.reduceAdd] at hK hL); (have e13 := hB.out 13); (simp (decide := true) only [look, if_true, if_false, hd, cond_true, cond_false, Array.getD_eq_getD_getElem?, List.getElem?_toArray, List.getElem?_cons_succ, List.getElem?_cons_zero, Option.getD_some] at e13); go_simp; exact hK.out (.bool b) x W (by simp (decide := true) [putO, setF, upd]) hW)
  · intro L x W hW hC hL hd B K hB hK; (try simp [depsB, Region.binds] at hd); (try simp only [Nat.reduceAdd] at hK hL)
    have h11 : L 11 = false := by cases hl : L 11 with | false => rfl | true => have hx := hC 11 _ rfl hl; simp [depsB, Region.binds, hL] at hx
    obtain ⟨S, hS, hN⟩ := hW
    refine wp_ran (run_alloc_op rfl (z := .agg #[.int .i64 0, .slice none 0 0]) (by kernel_rfl) W) ?_
    simp only [hL, cond_false, List.nil_append] at hN
    have hN2 := hN.park (cs := #[.int .i64 0, .slice none 0 0]) (t := 72) (b := W.heap.size) rfl
    refine hK.out (tptr W.heap.size) (x.1, W.heap.size) _ (by simp (decide := true) [putO, setF, upd, h11]) ⟨S, fun hx => hS (by simpa [upd] using hx), ?_⟩
    simp only [updS, updN L (show (11 : Nat) ≠ 10 by decide), h11, cond_true, cond_false, List.cons_append, List.nil_append]
    exact hN2
  · intro L x W hW hC hL hd B K hB hK; (try simp [depsB, Region.binds] at hd); (try simp only [Nat.reduceAdd] at hK hL)
    (have e7 := hB.out 7); (simp (decide := true) only [look, if_true, if_false, hd, cond_true, cond_false, Array.getD_eq_getD_getElem?, List.getElem?_toArray, List.getElem?_cons_succ, List.getElem?_cons_zero, Option.getD_some] at e7); (have e21 := hB.out 21); (simp (decide := true) only [look, if_true, if_false, hd, cond_true, cond_false, Array.getD_eq_getD_getElem?, List.getElem?_toArray, List.getElem?_cons_succ, List.getElem?_cons_zero, Option.getD_some] at e21)
    have h8' := hC 8 _ rfl (by simp only [hd])
    simp [depsB, Region.binds] at h8'
    have h7' := hC 7 _ rfl (by simp only [h8'])
    simp [depsB, Region.binds] at h7'
    obtain ⟨S, hS, hN⟩ := hW
    simp only [hL, hd, cond_true, cond_false, List.cons_append, List.nil_append] at hN
    refine hN.storeB 72 (.tmp 7) (.tmp 21) (by rfl) (by simp [Act.eval, e7]) (#[.int .i64 T.room, .slice x.1.1 M x.1.2]) (by simp [Act.eval, e21]) (by kernel_rfl) (by rfl) (by simp [Value.oneCell']) (fun W4 h4 => ?_)
    exact hK.out undef x W4 (by simp (decide := true) [putO, setF, upd]) ⟨S, fun hx => hS (by simpa [upd] using hx), by simpa [upd, hd] using h4⟩
  · (intro L x W hW hC hL hd B K hB hK; (try simp [depsB, Region.binds] at hd); (try simp only [Nat.reduceAdd] at hK hL); (have e22 := hB.out 22); (simp (decide := true) only [look, if_true, if_false, hd, cond_true, cond_false, Array.getD_eq_getD_getElem?, List.getElem?_toArray, List.getElem?_cons_succ, List.getElem?_cons_zero, Option.getD_some] at e22); go_simp; exact hK.out (.bool b) x W (by simp (decide := true) [putO, setF, upd]) hW)
  intro x9 W9 hW9
  simp only [ovl, cond_true, Array.getD_eq_getD_getElem?, List.getElem?_toArray, List.getElem?_cons_succ, List.getElem?_cons_zero, Option.getD_some, List.setIfInBounds_toArray, List.set_cons_zero, List.set_cons_succ]
  (try simp only [cond_true] at hW9)
  obtain ⟨S, hS, h9⟩ := hW9
  have HR9 := Lib.hid (hS (by simp))
  have h9b : Tw W9 w0 (⟨x9.2, 72, #[.int .i64 T.room, .slice x9.1.1 M x9.1.2]⟩ :: (⟨bd, 52, #[.bool true, .bool rw_, .int .u8 (by8 nx 0), .int .u8 (by8 nx 1), .int .u8 (by8 nx 2), .int .u8 (by8 nx 3), .int .u8 (by8 nx 4), .int .u8 (by8 nx 5), .int .u8 (by8 nx 6), .int .u8 (by8 nx 7), .int .i64 m, .string s]⟩ :: (⟨q, 72, #[.int .i64 T.room, .slice ao T.all.length cap]⟩ :: (S ++ (R ++ C))))) X [] p T := h9.permC (perm_cnt fun x => by simp only [cnt_append, cnt_cons, cnt_nil] <;> omega)
  have H9 := Lib.hid h9b
  (have hq := h9b.has (b := x9.2) (t := 72) (cs := #[.int .i64 T.room, .slice x9.1.1 M x9.1.2]) (by simp)); (have y0 := hq.cell 0); (have y1 := hq.cell 1); (have ly := hq.lt); (simp only [List.getElem?_toArray, List.getElem?_cons_succ, List.getElem?_cons_zero] at y0 y1); clear hq
  (have hq := h9b.has (b := bd) (t := 52) (cs := #[.bool true, .bool rw_, .int .u8 (by8 nx 0), .int .u8 (by8 nx 1), .int .u8 (by8 nx 2), .int .u8 (by8 nx 3), .int .u8 (by8 nx 4), .int .u8 (by8 nx 5), .int .u8 (by8 nx 6), .int .u8 (by8 nx 7), .int .i64 m, .string s]) (by simp)); (have d0 := hq.cell 0); (have d1 := hq.cell 1); (have d2 := hq.cell 2); (have d3 := hq.cell 3); (have d4 := hq.cell 4); (have d5 := hq.cell 5); (have d6 := hq.cell 6); (have d7 := hq.cell 7); (have d8 := hq.cell 8); (have d9 := hq.cell 9); (have d10 := hq.cell 10); (have d11 := hq.cell 11); (have ld := hq.lt); (simp only [List.getElem?_toArray, List.getElem?_cons_succ, List.getElem?_cons_zero] at d0 d1 d2 d3 d4 d5 d6 d7 d8 d9 d10 d11); clear hq
  clear h9 h9b hS HH
  go_wp2_with (refine (H9.out.permC (C' := ⟨q, 72, #[.int .i64 T.room, .slice ao T.all.length cap]⟩ :: (⟨x9.2, 72, #[.int .i64 T.room, .slice x9.1.1 M x9.1.2]⟩ :: (⟨bd, 52, #[.bool true, .bool rw_, .int .u8 (by8 nx 0), .int .u8 (by8 nx 1), .int .u8 (by8 nx 2), .int .u8 (by8 nx 3), .int .u8 (by8 nx 4), .int .u8 (by8 nx 5), .int .u8 (by8 nx 6), .int .u8 (by8 nx 7), .int .i64 m, .string s]⟩ :: (S ++ (R ++ C))))) (perm_cnt fun x => by simp only [cnt_append, cnt_cons, cnt_nil] <;> omega)).storeBL rfl 72 (.tmp 25) (.tmp 24) rfl (by rfl) #[.int .i64 T.room, .slice x9.1.1 M x9.1.2] (by rfl) (by kernel_rfl) (by rfl) (by simp [Value.oneCell']) ?_; intro w10 h10; (have H10 := Lib.hid h10); clear d0 d1 d2 d3 d4 d5 d6 d7 d8 d9 d10 d11 ld; clear y0 y1 ly; (have hq := h10.has (b := bd) (t := 52) (cs := #[.bool true, .bool rw_, .int .u8 (by8 nx 0), .int .u8 (by8 nx 1), .int .u8 (by8 nx 2), .int .u8 (by8 nx 3), .int .u8 (by8 nx 4), .int .u8 (by8 nx 5), .int .u8 (by8 nx 6), .int .u8 (by8 nx 7), .int .i64 m, .string s]) (by simp)); (have d0 := hq.cell 0); (have d1 := hq.cell 1); (have d2 := hq.cell 2); (have d3 := hq.cell 3); (have d4 := hq.cell 4); (have d5 := hq.cell 5); (have d6 := hq.cell 6); (have d7 := hq.cell 7); (have d8 := hq.cell 8); (have d9 := hq.cell 9); (have d10 := hq.cell 10); (have d11 := hq.cell 11); (have ld := hq.lt); (simp only [List.getElem?_toArray, List.getElem?_cons_succ, List.getElem?_cons_zero] at d0 d1 d2 d3 d4 d5 d6 d7 d8 d9 d10 d11); clear hq; clear h10 H9)
  go_wp2_with fail
  refine (hint_to nx h HX.out _).mono ?_
  rintro e w11 ⟨rfl, hb11⟩
  have H11 := Lib.hid (H10.out.of_below hb11)
  clear d0 d1 d2 d3 d4 d5 d6 d7 d8 d9 d10 d11 ld
  clear hb11 H10
  have hbb := eqB_tt b
  go_wp2_with fail
  refine (drop_to p T HT.out h _ w0 _ X _ H11.out b HB.out _ HTT.out).mono ?_
  rintro e w12 ⟨rfl, h12⟩
  have H12 := Lib.hid h12
  clear h12 H11
  go_wp2
  go_ret
  refine ⟨rfl, [], _, S ++ R, by rw [HAL.out]; exact HR9.out, ?_⟩
  rw [HRM.out]
  exact (H12.out.permC (C' := [⟨x9.2, 72, #[.int .i64 T.room, .slice x9.1.1 M x9.1.2]⟩, ⟨bd, 52, #[.bool true, .bool rw_, .int .u8 (by8 nx 0), .int .u8 (by8 nx 1), .int .u8 (by8 nx 2), .int .u8 (by8 nx 3), .int .u8 (by8 nx 4), .int .u8 (by8 nx 5), .int .u8 (by8 nx 6), .int .u8 (by8 nx 7), .int .i64 m, .string s]⟩] ++ (⟨q, 72, #[.int .i64 T.room, .slice x9.1.1 M x9.1.2]⟩ :: ((S ++ R) ++ C))) (perm_cnt fun x => by simp only [cnt_append, cnt_cons, cnt_nil] <;> omega)).dropC
set_option maxRecDepth 100000 in
set_option maxHeartbeats 8000000 in
theorem do51_take (p q : Nat) (T : TWS) (hT : TOk T) (rw_ : Bool) (nx : BitVec 64) (m : Int) (s : ByteArray) (hsz : s.size ≤ 300) (w w0 : World) (C X : List Blk) (H : Bo w w0 C X p q T) :
    Calls Try.prog 34 #[tptr p, tptr q, .agg #[.bool false, .bool rw_, .int .u8 (by8 nx 0), .int .u8 (by8 nx 1), .int .u8 (by8 nx 2), .int .u8 (by8 nx 3), .int .u8 (by8 nx 4), .int .u8 (by8 nx 5), .int .u8 (by8 nx 6), .int .u8 (by8 nx 7), .int .i64 m, .string s]] w fun e w' => e = .returned (.bool true) ∧ ∃ N, Bo w' w0 C (N ++ X) p q (takeT T (madeA ⟨false, rw_, nx, m, s⟩)) := by
  obtain ⟨v, R, hri, h0⟩ := H
  obtain ⟨ao, cap, rfl⟩ := hri.slice
  have hmax : T.all.length ≤ 4096 := Nat.le_trans hT.len hT.room
  have HT := Lib.hid hT
  have HRI := Lib.hid hri
  obtain ⟨a, HA⟩ : ∃ a, Hid (madeA ⟨false, rw_, nx, m, s⟩ = a) := ⟨_, rfl⟩
  rw [HA.out]
  have HSZ : Hid (s.size ≤ 300) := hsz
  clear hsz
  obtain ⟨E, HE⟩ : ∃ E, Hid (takeE ⟨T.room, T.all⟩ a = E) := ⟨_, rfl⟩
  obtain ⟨T', hT'⟩ : ∃ T', takeT T a = T' := ⟨_, rfl⟩
  obtain ⟨al', hal'⟩ : ∃ al', T'.all = al' := ⟨_, rfl⟩
  rw [hT']
  have HT' : Hid ((takeT ⟨T.room, T.all⟩ a).all = al') := by show _ = _; rw [← hal', ← hT']
  have HTT := Lib.hid hT'
  have HRM : Hid (T'.room = T.room) := by show _ = _; rw [← hT', take_room]
  obtain ⟨M, HM⟩ : ∃ M, Hid (al'.length = M) := ⟨_, rfl⟩
  have HAL := Lib.hid hal'
  have HH := Lib.hid (h0.park (cs := #[.bool false, .bool rw_, .int .u8 (by8 nx 0), .int .u8 (by8 nx 1), .int .u8 (by8 nx 2), .int .u8 (by8 nx 3), .int .u8 (by8 nx 4), .int .u8 (by8 nx 5), .int .u8 (by8 nx 6), .int .u8 (by8 nx 7), .int .i64 m, .string s]) (t := 52) (b := w.heap.size) rfl)
  clear hri h0 hT hT' hal'
  go_enter Try.func34, Try.ntmps34
  obtain ⟨bd, hbd⟩ : ∃ bd, bd = w.heap.size := ⟨_, rfl⟩
  go_wp2_with fail
  simp only [← hbd] at HH ⊢
  clear hbd
  refine wp_region_o2 [34, 35, 36, 37, 38, 39, 33, 40, 41, 9, 10] (fun L (x : (Option Addr × Nat) × Nat) => [(L 0, 34, tptr q), (L 1, 35, tptr q), (L 2, 36, .agg #[.int .i64 T.room, .slice ao T.all.length cap]), (L 3, 37, .agg #[.bool false, .bool rw_, .int .u8 (by8 nx 0), .int .u8 (by8 nx 1), .int .u8 (by8 nx 2), .int .u8 (by8 nx 3), .int .u8 (by8 nx 4), .int .u8 (by8 nx 5), .int .u8 (by8 nx 6), .int .u8 (by8 nx 7), .int .i64 m, .string s]), (L 4, 38, rAgg a.h a.n ⟨a.l.toArray⟩), (L 5, 39, bif L 5 then .tuple #[.agg #[.int .i64 T.room, .slice x.1.1 M x.1.2], .int .i64 E] else undef), (L 6, 33, bif L 6 then .tuple #[.agg #[.int .i64 T.room, .slice x.1.1 M x.1.2], .int .i64 E] else undef), (L 7, 40, bif L 7 then .agg #[.int .i64 T.room, .slice x.1.1 M x.1.2] else undef), (L 8, 41, .int .i64 E), (L 9, 9, bif L 9 then tptr x.2 else undef), (L 11, 10, .int .i64 E)])
    (fun L x W => ∃ S : List Blk, (L 5 = true → RowIn (.slice x.1.1 M x.1.2) al' (S ++ R)) ∧ Tw W w0 ((bif L 9 then [⟨x.2, 72, bif L 10 then #[.int .i64 T.room, .slice x.1.1 M x.1.2] else #[.int .i64 0, .slice none 0 0]⟩] else []) ++ (S ++ (⟨bd, 52, #[.bool false, .bool rw_, .int .u8 (by8 nx 0), .int .u8 (by8 nx 1), .int .u8 (by8 nx 2), .int .u8 (by8 nx 3), .int .u8 (by8 nx 4), .int .u8 (by8 nx 5), .int .u8 (by8 nx 6), .int .u8 (by8 nx 7), .int .i64 m, .string s]⟩ :: (⟨q, 72, #[.int .i64 T.room, .slice ao T.all.length cap]⟩ :: (R ++ C))))) X [] p T) ((none, 0), 0) (by kernel_rfl) (by kernel_rfl) 52 (by rfl) (fun _ _ => rfl) (by kernel_rfl) (by kernel_rfl) (by kernel_rfl) (by rfl) ⟨[], fun hx => (by simp at hx), HH.out.drew⟩ ?_ ⟨?_, ?_, ?_, ?_, ?_, ?_, ?_, ?_, ?_, ?_, ?_, ?_, trivial⟩
  rotate_left
  · (intro L x W hW hC hL hd B K hB hK; (try simp [depsB, Region.binds] at hd); (try simp only [Nat.reduceAdd] at hK hL); (have e1 := hB.out 1); (simp (decide := true) only [look, if_true, if_false, hd, cond_true, cond_false, Array.getD_eq_getD_getElem?, List.getElem?_toArray, List.getElem?_cons_succ, List.getElem?_cons_zero, Option.getD_some] at e1); go_simp; exact hK.out (tptr q) x W (by simp (decide := true) [putO, setF, upd]) hW)
  · (intro L x W hW hC hL hd B K hB hK; (try simp [depsB, Region.binds] at hd); (try simp only [Nat.reduceAdd] at hK hL); (have e34 := hB.out 34); (simp (decide := true) only [look, if_true, if_false, hd, cond_true, cond_false, Array.getD_eq_getD_getElem?, List.getElem?_toArray, List.getElem?_cons_succ, List.getElem?_cons_zero, Option.getD_some] at e34); go_simp; exact hK.out (tptr q) x W (by simp (decide := true) [putO, setF, upd]) hW)
  · (intro L x W hW hC hL hd B K hB hK; (try simp [depsB, Region.binds] at hd); (try simp only [Nat.reduceAdd] at hK hL); (have e35 := hB.out 35); (simp (decide := true) only [look, if_true, if_false, hd, cond_true, cond_false, Array.getD_eq_getD_getElem?, List.getElem?_toArray, List.getElem?_cons_succ, List.getElem?_cons_zero, Option.getD_some] at e35); (have hW0 := hW); (obtain ⟨S, hS, hN⟩ := hW0); (have hq := hN.has (b := q) (t := 72) (cs := #[.int .i64 T.room, .slice ao T.all.length cap]) (by simp)); (have q0 := hq.cell 0); (have q1 := hq.cell 1); (have lq := hq.lt); (simp only [List.getElem?_toArray, List.getElem?_cons_succ, List.getElem?_cons_zero] at q0 q1); clear hq; clear hS hN; go_simp; exact hK.out (.agg #[.int .i64 T.room, .slice ao T.all.length cap]) x W (by simp (decide := true) [putO, setF, upd]) hW)
  · (intro L x W hW hC hL hd B K hB hK; (try simp [depsB, Region.binds] at hd); (try simp only [Nat.reduceAdd] at hK hL); (have e5 := hB.out 5); (simp (decide := true) only [look, if_true, if_false, hd, cond_true, cond_false, Array.getD_eq_getD_getElem?, List.getElem?_toArray, List.getElem?_cons_succ, List.getElem?_cons_zero, Option.getD_some] at e5); (have hW0 := hW); (obtain ⟨S, hS, hN⟩ := hW0); (have hq := hN.has (b := bd) (t := 52) (cs := #[.bool false, .bool rw_, .int .u8 (by8 nx 0), .int .u8 (by8 nx 1), .int .u8 (by8 nx 2), .int .u8 (by8 nx 3), .int .u8 (by8 nx 4), .int .u8 (by8 nx 5), .int .u8 (by8 nx 6), .int .u8 (by8 nx 7), .int .i64 m, .string s]) (by simp)); (have q0 := hq.cell 0); (have q1 := hq.cell 1); (have q2 := hq.cell 2); (have q3 := hq.cell 3); (have q4 := hq.cell 4); (have q5 := hq.cell 5); (have q6 := hq.cell 6); (have q7 := hq.cell 7); (have q8 := hq.cell 8); (have q9 := hq.cell 9); (have q10 := hq.cell 10); (have q11 := hq.cell 11); (have lq := hq.lt); (simp only [List.getElem?_toArray, List.getElem?_cons_succ, List.getElem?_cons_zero] at q0 q1 q2 q3 q4 q5 q6 q7 q8 q9 q10 q11); clear hq; clear hS hN; go_simp; exact hK.out (.agg #[.bool false, .bool rw_, .int .u8 (by8 nx 0), .int .u8 (by8 nx 1), .int .u8 (by8 nx 2), .int .u8 (by8 nx 3), .int .u8 (by8 nx 4), .int .u8 (by8 nx 5), .int .u8 (by8 nx 6), .int .u8 (by8 nx 7), .int .i64 m, .string s]) x W (by simp (decide := true) [putO, setF, upd]) hW)
  · intro L x W hW hC hL hd B K hB hK; (try simp [depsB, Region.binds] at hd); (try simp only [Nat.reduceAdd] at hK hL)
    (have e37 := hB.out 37); (simp (decide := true) only [look, if_true, if_false, hd, cond_true, cond_false, Array.getD_eq_getD_getElem?, List.getElem?_toArray, List.getElem?_cons_succ, List.getElem?_cons_zero, Option.getD_some] at e37)
    obtain ⟨S, hS, hN⟩ := hW
    refine wp_call_in 26 (by rfl) (by kernel_rfl) #[.agg #[.bool false, .bool rw_, .int .u8 (by8 nx 0), .int .u8 (by8 nx 1), .int .u8 (by8 nx 2), .int .u8 (by8 nx 3), .int .u8 (by8 nx 4), .int .u8 (by8 nx 5), .int .u8 (by8 nx 6), .int .u8 (by8 nx 7), .int .i64 m, .string s]] (by simp [Act.eval, e37]) ((made_to ⟨false, rw_, nx, m, s⟩ HSZ.out a HA.out W).mono ?_)
    rintro e W4 ⟨rfl, hb4⟩
    refine ⟨_, rfl, ?_⟩
    exact hK.out (rAgg a.h a.n ⟨a.l.toArray⟩) x W4 (by simp (decide := true) [putO, setF, upd]) ⟨S, fun hx => hS (by simpa [upd] using hx), by simpa [upd] using hN.of_below hb4⟩
  · intro L x W hW hC hL hd B K hB hK; (try simp [depsB, Region.binds] at hd); (try simp only [Nat.reduceAdd] at hK hL)
    (have e36 := hB.out 36); (simp (decide := true) only [look, if_true, if_false, hd, cond_true, cond_false, Array.getD_eq_getD_getElem?, List.getElem?_toArray, List.getElem?_cons_succ, List.getElem?_cons_zero, Option.getD_some] at e36); (have e38 := hB.out 38); (simp (decide := true) only [look, if_true, if_false, hd, cond_true, cond_false, Array.getD_eq_getD_getElem?, List.getElem?_toArray, List.getElem?_cons_succ, List.getElem?_cons_zero, Option.getD_some] at e38)
    have h6 : L 6 = false := by cases hl : L 6 with | false => rfl | true => have hx := hC 6 _ rfl hl; simp [depsB, Region.binds, hL] at hx
    have h7 : L 7 = false := by cases hl : L 7 with | false => rfl | true => have hx := hC 7 _ rfl hl; simp [depsB, Region.binds, h6] at hx
    have h10 : L 10 = false := by cases hl : L 10 with | false => rfl | true => have hx := hC 10 _ rfl hl; simp [depsB, Region.binds, hL] at hx
    obtain ⟨S, hS, hN⟩ := hW
    simp only [h10, cond_false] at hN
    refine wp_call_in 53 (by rfl) (by kernel_rfl) #[.agg #[.int .i64 T.room, .slice ao T.all.length cap], rAgg a.h a.n ⟨a.l.toArray⟩] (by simp [Act.eval, e36, e38]) ((rtake_to T.room (.slice ao T.all.length cap) T.all (by omega) HT.out.len a W (hN.rsl HRI.out (C' := (bif L 9 then [⟨x.2, 72, #[.int .i64 0, .slice none 0 0]⟩] else []) ++ (S ++ (⟨bd, 52, #[.bool false, .bool rw_, .int .u8 (by8 nx 0), .int .u8 (by8 nx 1), .int .u8 (by8 nx 2), .int .u8 (by8 nx 3), .int .u8 (by8 nx 4), .int .u8 (by8 nx 5), .int .u8 (by8 nx 6), .int .u8 (by8 nx 7), .int .i64 m, .string s]⟩ :: (⟨q, 72, #[.int .i64 T.room, .slice ao T.all.length cap]⟩ :: C)))) ?_) E HE.out al' HT'.out).mono ?_)
    · exact (perm_cnt fun x => by simp only [cnt_append, cnt_cons, cnt_nil] <;> omega)
    rintro e W4 ⟨v', rfl, hb4, hnr⟩
    refine ⟨_, rfl, ?_⟩
    obtain ⟨N4, hp4, hx4, hr4⟩ := hnr.found HRI.out
    obtain ⟨a4, c4, rfl⟩ := hr4.slice
    rw [HM.out] at hr4 ⊢
    have hN4 := hN.foundC (Ext.of_below hb4) hp4 hx4
    refine hK.out (.tuple #[.agg #[.int .i64 T.room, .slice a4 M c4], .int .i64 E]) ((a4, c4), x.2) W4 (by simp (decide := true) [putO, setF, upd, h6, h7]) ⟨N4 ++ S, fun _ => ?_, ?_⟩
    · exact hr4.more2 S
    simp only [updN L (show (9 : Nat) ≠ 5 by decide), updN L (show (10 : Nat) ≠ 5 by decide), h10, cond_false]
    exact hN4.permC (perm_cnt fun x => by simp only [cnt_append, cnt_cons, cnt_nil] <;> omega)
  · (intro L x W hW hC hL hd B K hB hK; (try simp [depsB, Region.binds] at hd); (try simp only [Nat.reduceAdd] at hK hL); (have e39 := hB.out 39); (simp (decide := true) only [look, if_true, if_false, hd, cond_true, cond_false, Array.getD_eq_getD_getElem?, List.getElem?_toArray, List.getElem?_cons_succ, List.getElem?_cons_zero, Option.getD_some] at e39); go_simp; exact hK.out (.tuple #[.agg #[.int .i64 T.room, .slice x.1.1 M x.1.2], .int .i64 E]) x W (by simp (decide := true) [putO, setF, upd]) hW)
  · (intro L x W hW hC hL hd B K hB hK; (try simp [depsB, Region.binds] at hd); (try simp only [Nat.reduceAdd] at hK hL); (have e33 := hB.out 33); (simp (decide := true) only [look, if_true, if_false, hd, cond_true, cond_false, Array.getD_eq_getD_getElem?, List.getElem?_toArray, List.getElem?_cons_succ, List.getElem?_cons_zero, Option.getD_some] at e33); go_simp; exact hK.out (.agg #[.int .i64 T.room, .slice x.1.1 M x.1.2]) x W (by simp (decide := true) [putO, setF, upd]) hW)
  · (intro L x W hW hC hL hd B K hB hK; (try simp [depsB, Region.binds] at hd); (try simp only [Nat.reduceAdd] at hK hL); (have e33 := hB.out 33); (simp (decide := true) only [look, if_true, if_false, hd, cond_true, cond_false, Array.getD_eq_getD_getElem?, List.getElem?_toArray, List.getElem?_cons_succ, List.getElem?_cons_zero, Option.getD_some] at e33); go_simp; exact hK.out (.int .i64 E) x W (by simp (decide := true) [putO, setF, upd]) hW)
  · intro L x W hW hC hL hd B K hB hK; (try simp [depsB, Region.binds] at hd); (try simp only [Nat.reduceAdd] at hK hL)
    have h10 : L 10 = false := by cases hl : L 10 with | false => rfl | true => have hx := hC 10 _ rfl hl; simp [depsB, Region.binds, hL] at hx
    obtain ⟨S, hS, hN⟩ := hW
    refine wp_ran (run_alloc_op rfl (z := .agg #[.int .i64 0, .slice none 0 0]) (by kernel_rfl) W) ?_
    simp only [hL, cond_false, List.nil_append] at hN
    have hN2 := hN.park (cs := #[.int .i64 0, .slice none 0 0]) (t := 72) (b := W.heap.size) rfl
    refine hK.out (tptr W.heap.size) (x.1, W.heap.size) _ (by simp (decide := true) [putO, setF, upd, h10]) ⟨S, fun hx => hS (by simpa [upd] using hx), ?_⟩
    simp only [updS, updN L (show (10 : Nat) ≠ 9 by decide), h10, cond_true, cond_false, List.cons_append, List.nil_append]
    exact hN2
  · intro L x W hW hC hL hd B K hB hK; (try simp [depsB, Region.binds] at hd); (try simp only [Nat.reduceAdd] at hK hL)
    (have e9 := hB.out 9); (simp (decide := true) only [look, if_true, if_false, hd, cond_true, cond_false, Array.getD_eq_getD_getElem?, List.getElem?_toArray, List.getElem?_cons_succ, List.getElem?_cons_zero, Option.getD_some] at e9); (have e40 := hB.out 40); (simp (decide := true) only [look, if_true, if_false, hd, cond_true, cond_false, Array.getD_eq_getD_getElem?, List.getElem?_toArray, List.getElem?_cons_succ, List.getElem?_cons_zero, Option.getD_some] at e40)
    have h7' := hC 7 _ rfl (by simp only [hd])
    simp [depsB, Region.binds] at h7'
    have h6' := hC 6 _ rfl (by simp only [h7'])
    simp [depsB, Region.binds] at h6'
    obtain ⟨S, hS, hN⟩ := hW
    simp only [hL, hd, cond_true, cond_false, List.cons_append, List.nil_append] at hN
    refine hN.storeB 72 (.tmp 9) (.tmp 40) (by rfl) (by simp [Act.eval, e9]) (#[.int .i64 T.room, .slice x.1.1 M x.1.2]) (by simp [Act.eval, e40]) (by kernel_rfl) (by rfl) (by simp [Value.oneCell']) (fun W4 h4 => ?_)
    exact hK.out undef x W4 (by simp (decide := true) [putO, setF, upd]) ⟨S, fun hx => hS (by simpa [upd] using hx), by simpa [upd, hd] using h4⟩
  · (intro L x W hW hC hL hd B K hB hK; (try simp [depsB, Region.binds] at hd); (try simp only [Nat.reduceAdd] at hK hL); (have e41 := hB.out 41); (simp (decide := true) only [look, if_true, if_false, hd, cond_true, cond_false, Array.getD_eq_getD_getElem?, List.getElem?_toArray, List.getElem?_cons_succ, List.getElem?_cons_zero, Option.getD_some] at e41); go_simp; exact hK.out (.int .i64 E) x W (by simp (decide := true) [putO, setF, upd]) hW)
  intro x9 W9 hW9
  simp only [ovl, cond_true, Array.getD_eq_getD_getElem?, List.getElem?_toArray, List.getElem?_cons_succ, List.getElem?_cons_zero, Option.getD_some, List.setIfInBounds_toArray, List.set_cons_zero, List.set_cons_succ]
  (try simp only [cond_true] at hW9)
  obtain ⟨S, hS, h9⟩ := hW9
  have HR9 := Lib.hid (hS (by simp))
  have h9b : Tw W9 w0 (⟨x9.2, 72, #[.int .i64 T.room, .slice x9.1.1 M x9.1.2]⟩ :: (⟨bd, 52, #[.bool false, .bool rw_, .int .u8 (by8 nx 0), .int .u8 (by8 nx 1), .int .u8 (by8 nx 2), .int .u8 (by8 nx 3), .int .u8 (by8 nx 4), .int .u8 (by8 nx 5), .int .u8 (by8 nx 6), .int .u8 (by8 nx 7), .int .i64 m, .string s]⟩ :: (⟨q, 72, #[.int .i64 T.room, .slice ao T.all.length cap]⟩ :: (S ++ (R ++ C))))) X [] p T := h9.permC (perm_cnt fun x => by simp only [cnt_append, cnt_cons, cnt_nil] <;> omega)
  have H9 := Lib.hid h9b
  (have hq := h9b.has (b := x9.2) (t := 72) (cs := #[.int .i64 T.room, .slice x9.1.1 M x9.1.2]) (by simp)); (have y0 := hq.cell 0); (have y1 := hq.cell 1); (have ly := hq.lt); (simp only [List.getElem?_toArray, List.getElem?_cons_succ, List.getElem?_cons_zero] at y0 y1); clear hq
  (have hq := h9b.has (b := bd) (t := 52) (cs := #[.bool false, .bool rw_, .int .u8 (by8 nx 0), .int .u8 (by8 nx 1), .int .u8 (by8 nx 2), .int .u8 (by8 nx 3), .int .u8 (by8 nx 4), .int .u8 (by8 nx 5), .int .u8 (by8 nx 6), .int .u8 (by8 nx 7), .int .i64 m, .string s]) (by simp)); (have d0 := hq.cell 0); (have d1 := hq.cell 1); (have d2 := hq.cell 2); (have d3 := hq.cell 3); (have d4 := hq.cell 4); (have d5 := hq.cell 5); (have d6 := hq.cell 6); (have d7 := hq.cell 7); (have d8 := hq.cell 8); (have d9 := hq.cell 9); (have d10 := hq.cell 10); (have d11 := hq.cell 11); (have ld := hq.lt); (simp only [List.getElem?_toArray, List.getElem?_cons_succ, List.getElem?_cons_zero] at d0 d1 d2 d3 d4 d5 d6 d7 d8 d9 d10 d11); clear hq
  clear h9 h9b hS HH
  go_wp2_with (refine (H9.out.permC (C' := ⟨q, 72, #[.int .i64 T.room, .slice ao T.all.length cap]⟩ :: (⟨x9.2, 72, #[.int .i64 T.room, .slice x9.1.1 M x9.1.2]⟩ :: (⟨bd, 52, #[.bool false, .bool rw_, .int .u8 (by8 nx 0), .int .u8 (by8 nx 1), .int .u8 (by8 nx 2), .int .u8 (by8 nx 3), .int .u8 (by8 nx 4), .int .u8 (by8 nx 5), .int .u8 (by8 nx 6), .int .u8 (by8 nx 7), .int .i64 m, .string s]⟩ :: (S ++ (R ++ C))))) (perm_cnt fun x => by simp only [cnt_append, cnt_cons, cnt_nil] <;> omega)).storeBL rfl 72 (.tmp 44) (.tmp 43) rfl (by rfl) #[.int .i64 T.room, .slice x9.1.1 M x9.1.2] (by rfl) (by kernel_rfl) (by rfl) (by simp [Value.oneCell']) ?_; intro w10 h10; (have H10 := Lib.hid h10); clear d0 d1 d2 d3 d4 d5 d6 d7 d8 d9 d10 d11 ld; clear y0 y1 ly; (have hq := h10.has (b := bd) (t := 52) (cs := #[.bool false, .bool rw_, .int .u8 (by8 nx 0), .int .u8 (by8 nx 1), .int .u8 (by8 nx 2), .int .u8 (by8 nx 3), .int .u8 (by8 nx 4), .int .u8 (by8 nx 5), .int .u8 (by8 nx 6), .int .u8 (by8 nx 7), .int .i64 m, .string s]) (by simp)); (have d0 := hq.cell 0); (have d1 := hq.cell 1); (have d2 := hq.cell 2); (have d3 := hq.cell 3); (have d4 := hq.cell 4); (have d5 := hq.cell 5); (have d6 := hq.cell 6); (have d7 := hq.cell 7); (have d8 := hq.cell 8); (have d9 := hq.cell 9); (have d10 := hq.cell 10); (have d11 := hq.cell 11); (have ld := hq.lt); (simp only [List.getElem?_toArray, List.getElem?_cons_succ, List.getElem?_cons_zero] at d0 d1 d2 d3 d4 d5 d6 d7 d8 d9 d10 d11); clear hq; clear h10 H9)
  go_wp2_with fail
  refine (made_to ⟨false, rw_, nx, m, s⟩ HSZ.out a HA.out _).mono ?_
  rintro e w11 ⟨rfl, hb11⟩
  have H11 := Lib.hid (H10.out.of_below hb11)
  clear d0 d1 d2 d3 d4 d5 d6 d7 d8 d9 d10 d11 ld
  clear hb11 H10
  go_wp2_with fail
  refine (own_to a.h a.n ⟨a.l.toArray⟩ _).mono ?_
  rintro e w12 ⟨u, rfl, hb12, hu⟩
  have H12 := Lib.hid (H11.out.of_below hb12)
  have HU := Lib.hid hu
  clear hb12 hu H11
  have hEE : ((E : Int) == (E : Int)) = true := by simp
  go_wp2_with fail
  refine (take_to p T HT.out a.h a.n u a.l _ w0 _ X _ H12.out HU.out E HE.out _ HTT.out).mono ?_
  rintro e w13 ⟨rfl, N, h13⟩
  have H13 := Lib.hid h13
  clear h13 H12
  go_wp2
  go_ret
  refine ⟨rfl, N, _, S ++ R, by rw [HAL.out]; exact HR9.out, ?_⟩
  rw [HRM.out]
  exact (H13.out.permC (C' := [⟨x9.2, 72, #[.int .i64 T.room, .slice x9.1.1 M x9.1.2]⟩, ⟨bd, 52, #[.bool false, .bool rw_, .int .u8 (by8 nx 0), .int .u8 (by8 nx 1), .int .u8 (by8 nx 2), .int .u8 (by8 nx 3), .int .u8 (by8 nx 4), .int .u8 (by8 nx 5), .int .u8 (by8 nx 6), .int .u8 (by8 nx 7), .int .i64 m, .string s]⟩] ++ (⟨q, 72, #[.int .i64 T.room, .slice x9.1.1 M x9.1.2]⟩ :: ((S ++ R) ++ C))) (perm_cnt fun x => by simp only [cnt_append, cnt_cons, cnt_nil] <;> omega)).dropC

theorem do51_to (p q : Nat) (T : TWS) (hT : TOk T) (d : DeedV) (hsz : d.claim.size ≤ 300) (w w0 : World) (C X : List Blk) (H : Bo w w0 C X p q T) :
    Calls Try.prog 34 #[tptr p, tptr q, d.agg] w fun e w' => e = .returned (.bool true) ∧ ∃ N, Bo w' w0 C (N ++ X) p q (actT T d) := by
  obtain ⟨dr, rw_, nx, m, s⟩ := d
  cases dr with
  | true => exact do51_drop p q T hT rw_ nx m s w w0 C X H
  | false => exact do51_take p q T hT rw_ nx m s hsz w w0 C X H

end Go.Proofs.Ytghaiplhakeahaa
