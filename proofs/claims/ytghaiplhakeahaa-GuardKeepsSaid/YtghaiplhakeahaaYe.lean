/- tower: contracts of slices.Delete (one appointment) and Drop. -/
import Derived.Test.YtghaiplhakeahaaYb
import Derived.Deep.RegionLaw
import Derived.Lib.SliceRun
namespace Go.Proofs.Ytghaiplhakeahaa
set_option linter.unusedSimpArgs false
set_option linter.unusedVariables false
open Go.RowKit Go.WideMaps Go.ChangeMaps Go.Maps

/-- 'clear(s)', the elements of several cells each. -/
theorem run_clear_rows {P : Program} (w : World) (t e ty : TypeId) (z : Value) (ht : P.underlying t = some (.slice e)) (hv : ∀ w, (zeroValue e).run P w = .ok z w) (sz : Nat) (hz : z.cells.size = sz) (h0 : 0 < sz) (h1 : ∀ u ∈ z.cells.toList, u.oneCell' = true) (b o n c : Nat) (hn : 0 < n)
    (hc : ∀ j, j < n * sz → (w.cell? ⟨b, o + j, none⟩).isSome = true) (hf : ∀ j, j < n * sz → w.frozen? ⟨b, o + j, none⟩ = false) :
    (Builtin.clear_ #[t] ty #[.slice (some ⟨b, o, none⟩) n c]).run P w = .ok (.tuple #[]) (w.setCells b o (Builtin.zeroCells z.cells n).toList) := by
  have hl : (Builtin.zeroCells z.cells n).toList.length = n * sz := by rw [Array.length_toList, size_zeroCells, hz]
  have ho : ∀ u ∈ (Builtin.zeroCells z.cells n).toList, u.oneCell' = true := fun u hu => by
    simp only [Builtin.zeroCells, Array.toList_map, List.mem_map] at hu
    obtain ⟨k, -, rfl⟩ := hu
    have hk : k % z.cells.size < z.cells.size := Nat.mod_lt _ (by omega)
    rw [getElem!_pos z.cells _ hk]
    exact h1 _ (by simp)
  have hst := run_storeCells_cells (P := P) b o (Builtin.zeroCells z.cells n).toList 0 w (fun j hj => hc j (by rw [hl] at hj; exact hj)) (fun j hj => hf j (by rw [hl] at hj; exact hj)) ho
  simp only [Nat.add_zero] at hst
  obtain ⟨m, rfl⟩ : ∃ m, n = m + 1 := ⟨n - 1, by omega⟩
  simp [Builtin.clear_, run_underlying ht, hv, hst]
/-- A row without one of its elements. -/
theorem del_at (cur : Array Value) (N i : Nat) (hi : i < N) (hN : N * 10 ≤ cur.size) (zs : List Value) :
    (writeAt (writeAt cur (i * 10) ((cur.toList.take (N * 10)).drop ((i + 1) * 10))) ((N - 1) * 10) zs).toList.take ((N - 1) * 10) = (cur.toList.take (N * 10)).take (i * 10) ++ (cur.toList.take (N * 10)).drop ((i + 1) * 10) := by
  have hl : ((cur.toList.take (N * 10)).drop ((i + 1) * 10)).length = (N - 1) * 10 - i * 10 := by
    rw [List.length_drop, List.length_take, Array.length_toList]; omega
  apply List.ext_getElem?
  intro k
  rw [List.getElem?_take]
  by_cases hk : k < (N - 1) * 10
  · rw [if_pos hk, Array.getElem?_toList, writeAt_get, if_neg (by omega), writeAt_get]
    by_cases h1 : k < i * 10
    · rw [if_neg (by omega), List.getElem?_append_left (by simp; omega), List.getElem?_take, if_pos h1, List.getElem?_take, if_pos (by omega), Array.getElem?_toList]
    · rw [if_pos (by rw [hl]; omega), List.getElem?_append_right (by simp; omega)]
      congr 1
      simp
      omega
  · rw [if_neg hk, List.getElem?_eq_none (by rw [List.length_append, hl]; simp; omega)]

set_option maxRecDepth 1000000 in
set_option maxHeartbeats 4000000 in
theorem adelete_one (r M cap : Nat) (cur : Array Value) (F : List Blk) (K : List (Nat × Obj)) (i : Nat) (hi : i ≤ M) (hc : M + 1 ≤ cap) (hm : cap ≤ maxLen) (hs : cur.size = cap * 10) (h1 : ∀ u ∈ cur.toList.take ((M + 1) * 10), u.oneCell' = true) (w w0 : World) (O : Omw w w0 (⟨r, 29, cur⟩ :: F) K) :
    Calls Try.prog 65 #[.slice (some ⟨r, 0, none⟩) (M + 1) cap, .int .i64 (i : Nat), .int .i64 ((i : Int) + 1)] w fun e w' => e = .returned (.slice (some ⟨r, 0, none⟩) M cap) ∧ ∃ zs : List Value, Omw w' w0 (⟨r, 29, writeAt (writeAt cur (i * 10) ((cur.toList.take ((M + 1) * 10)).drop ((i + 1) * 10))) (M * 10) zs⟩ :: F) K := by
  have hm' : cap ≤ 9223372036854775807 := by simp only [maxLen] at hm; omega
  obtain ⟨i0, z0, ht, hi0, hz0, hz1, -, -, -⟩ := elt_app
  obtain ⟨news, hnews⟩ : ∃ news, news = (cur.toList.take ((M + 1) * 10)).drop ((i + 1) * 10) := ⟨_, rfl⟩
  rw [← hnews]
  have hlen : news.length = (M - i) * 10 := by rw [hnews]; simp; omega
  have hget : ∀ t u, news[t]? = some u → cur[(i + 1) * 10 + t]? = some u := by
    intro t u hu
    rw [hnews, List.getElem?_drop, List.getElem?_take] at hu
    split at hu
    · rwa [Array.getElem?_toList] at hu
    · cases hu
  have OD : Omw w.drew w0 (⟨r, 29, cur⟩ :: F) K := O.drew
  have HBD := OD.blk (List.mem_cons_self ..)
  obtain ⟨A, hA, hsrc⟩ : ∃ A : Addr, (if cap = i + 1 then some (⟨r, 0, none⟩ : Addr) else some ⟨r, (i + 1) * 10, none⟩) = some A ∧ Hid (∀ t u, news[t]? = some u → w.drew.cell? (A.add t) = some u) := by
    by_cases h : cap = i + 1
    · refine ⟨⟨r, 0, none⟩, by simp [h], fun t u hu => ?_⟩
      have h0 : news.length = 0 := by rw [hlen]; omega
      rw [List.length_eq_zero_iff.1 h0] at hu
      simp at hu
    · refine ⟨⟨r, (i + 1) * 10, none⟩, by simp [h], fun t u hu => ?_⟩
      have hadd : (⟨r, (i + 1) * 10, none⟩ : Addr).add t = ⟨r, (i + 1) * 10 + t, none⟩ := by unfold Addr.add; split <;> simp_all
      rw [hadd, HBD.cell]
      exact hget t u hu
  have s2 : Hid (∀ u ∈ news, u.oneCell' = true) := fun u hu => h1 u (by rw [hnews] at hu; exact List.mem_of_mem_drop hu)
  have s3 : Hid (∀ t, t < news.length → (w.drew.cell? ⟨r, 0 + i * 10 + t, none⟩).isSome = true ∧ w.drew.frozen? ⟨r, 0 + i * 10 + t, none⟩ = false) := by
    intro t ht
    rw [HBD.cell, HBD.frozen]
    exact ⟨by rw [Array.getElem?_eq_getElem (by omega)]; rfl, rfl⟩
  obtain ⟨W1, hW1⟩ : ∃ W1, W1 = w.drew.setCells r (0 + i * 10) news := ⟨_, rfl⟩
  have O1 : Omw W1 w0 (⟨r, 29, writeAt cur (i * 10) news⟩ :: F) K := by rw [hW1, Nat.zero_add]; exact OD.lays _ _
  have HB1 := O1.blk (List.mem_cons_self ..)
  have hcl : ∀ ty, (Builtin.clear_ #[120] ty #[.slice (some ⟨r, M * 10, none⟩) 1 (cap - M)]).run Try.prog W1 = .ok (.tuple #[]) (W1.setCells r (M * 10) (Builtin.zeroCells (Value.agg #[.int .u8 0, .int .u8 0, .int .u8 0, .int .u8 0, .int .u8 0, .int .u8 0, .int .u8 0, .int .u8 0, .int .i64 0, .slice none 0 0]).cells 1).toList) :=
    fun ty => run_clear_rows W1 _ _ ty _ ht vz_app 10 rfl (by omega) (by simp [Value.cells, Value.oneCell']) r (M * 10) _ _ (by omega) (fun t ht => by rw [HB1.cell, Array.getElem?_eq_getElem (by rw [writeAt_len]; omega)]; rfl) (fun t ht => HB1.frozen _)
  have hW : Hid (W1 = w.drew.setCells r (0 + i * 10) news) := hW1
  have HO1 := Lib.hid O1
  have HL := Lib.hid hlen
  have hnm : i + (M - i) = M := by omega
  have HNM := Lib.hid hnm
  have hsub : M + 1 - (i + 1) = M - i := by omega
  have hcM : ¬ cap = M := by omega
  have hic : i ≤ cap := by omega
  have hic1 : i + 1 ≤ cap := by omega
  have hMc : M ≤ cap := by omega
  have hMc1 : M + 1 ≤ cap := hc
  have hi0' : (0 : Int) ≤ (i : Int) + 1 := by omega
  clear hW1 OD HBD O1 HB1 hget hnews hlen O h1 hnm
  go_enter Try.func65, Try.ntmps65
  go_wp2_with fail
  go_region_law (refine step_append_room rfl (.tmp 22) (.tmp 25) 120 rfl 29 i0 10 ht hi0 hz1 r 0 i cap (by simp [Act.eval, Act.put]) A (M - i) (cap - (i + 1)) news (by simp [Act.eval, Act.put]) HL.out hsrc.out s2.out (by omega) s3.out ?_; rw [← hW.out, HNM.out])
  go_wp2
  go_ret
  exact ⟨rfl, _, HO1.out.lays _ _⟩

theorem Msgs.erase {w0 : World} {L : List Blk} {vs : List Value} {ms : List (List UInt8)} (h : Msgs w0 L vs ms) (i : Nat) : Msgs w0 L (vs.eraseIdx i) (ms.eraseIdx i) := by
  rw [List.eraseIdx_eq_take_drop_succ, List.eraseIdx_eq_take_drop_succ]
  exact (h.take i).app (h.drop (i + 1))
theorem map_erase (al : List AP) (i : Nat) : (al.eraseIdx i).map (·.l) = (al.map (·.l)).eraseIdx i := by
  rw [List.eraseIdx_eq_take_drop_succ, List.eraseIdx_eq_take_drop_succ]
  simp
set_option maxRecDepth 100000 in
theorem drop_nil (x : BitVec 64) (w : World) : Calls Try.prog 24 #[.pointer none, .agg #[.int .u8 (by8 x 0), .int .u8 (by8 x 1), .int .u8 (by8 x 2), .int .u8 (by8 x 3), .int .u8 (by8 x 4), .int .u8 (by8 x 5), .int .u8 (by8 x 6), .int .u8 (by8 x 7)]] w fun e w' => e = .returned (.bool false) ∧ Below w.heap.size w w' := by
  go_enter Try.func24, Try.ntmps24
  go_wp2
  go_ret
  exact ⟨rfl, by (repeat' (first | (with_reducible exact Below.refl _ _) | (with_reducible refine bplus ?_ _ _) | (with_reducible refine balloc ?_ _) | (with_reducible refine Below.drew ?_) | (with_reducible refine bdrewN ?_ _) | (with_reducible refine Below.setCell ?_ (by go_size) _)))⟩
set_option maxRecDepth 100000 in
set_option maxHeartbeats 2000000 in
theorem drop_none (p : Nat) (T : TWS) (x : BitVec 64) (w w0 : World) (C X : List Blk) (K : List (Nat × Obj)) (H : Tw w w0 C X K p T) (hi : idx T.all x = none) :
    Calls Try.prog 24 #[tptr p, .agg #[.int .u8 (by8 x 0), .int .u8 (by8 x 1), .int .u8 (by8 x 2), .int .u8 (by8 x 3), .int .u8 (by8 x 4), .int .u8 (by8 x 5), .int .u8 (by8 x 6), .int .u8 (by8 x 7)]] w fun e w' => e = .returned (.bool false) ∧ Below w.heap.size w w' := by
  obtain ⟨tv, m, es, ck, R, vs, O, D⟩ := H.open_
  have HB := O.blk (List.mem_cons_self ..)
  have lt := HB.lt
  have c1 : w.cell? ⟨p, 1, none⟩ = some tv := HB.cell 1
  have c2 : w.cell? ⟨p, 2, none⟩ = some (.map (some m)) := HB.cell 2
  have HO := Lib.hid (O.key #[.int .u8 (by8 x 0), .int .u8 (by8 x 1), .int .u8 (by8 x 2), .int .u8 (by8 x 3), .int .u8 (by8 x 4), .int .u8 (by8 x 5), .int .u8 (by8 x 6), .int .u8 (by8 x 7)] 27 w.heap.size rfl)
  have HD := Lib.hid D
  clear HB H
  have HI : Hid (idxV T.all x = none) := by show _ = _; unfold idxV; rw [hi]; rfl
  obtain ⟨ak, kcap, rfl⟩ := D.row.slice
  clear O D
  go_enter Try.func24, Try.ntmps24
  go_wp2_with fail
  refine wp_region_rq (by kernel_rfl) (by kernel_rfl) (by kernel_rfl) ?_
  repeat (first
    | (refine B_skip ?_ ?_; (· rfl); (try simp only [Act.put, List.setIfInBounds_toArray, List.set_cons_zero, List.set_cons_succ]))
    | (refine B_move rfl ?_ ?_; (· rfl); (try simp only [Act.eval, Act.put, Array.getD_eq_getD_getElem?, List.getElem?_toArray, List.getElem?_cons_succ, List.getElem?_cons_zero, Option.getD_some, List.setIfInBounds_toArray, List.set_cons_zero, List.set_cons_succ]))
    | (refine B_plain ?_ ?_; (· rfl); intro K hK; go_big_quiet_op; with_reducible refine hK _ ?_; clear hK K)
    | (refine B_nilck rfl rfl ?_ ?_; (· rfl); (try simp only [Act.put, List.setIfInBounds_toArray, List.set_cons_zero, List.set_cons_succ]))
    | (refine B_look2 HD.out.map mapI (HO.out.has _ (List.mem_cons_self ..)) (.tmp 15) (.tmp 16) rfl (by rfl) x (by rfl) vz_int (.tuple #[.int .i64 0, .bool false]) (by rw [HI.out]; rfl) rfl ?_ ?_ ?_; (· rfl); (· rfl); (try simp only [Act.put, List.setIfInBounds_toArray, List.set_cons_zero, List.set_cons_succ])))
  refine B_nil ?_ rfl ?_ ?_
  · kernel_rfl
  · rfl
  rintro _ ⟨⟨g1, d1⟩, rfl⟩
  simp only [fin, Act.put, List.setIfInBounds_toArray, List.set_cons_zero, List.set_cons_succ]
  go_wp2
  go_ret
  exact ⟨rfl, by (repeat' (first | (with_reducible exact Below.refl _ _) | (with_reducible refine bplus ?_ _ _) | (with_reducible refine balloc ?_ _) | (with_reducible refine Below.drew ?_) | (with_reducible refine bdrewN ?_ _) | (with_reducible refine Below.setCell ?_ (by go_size) _)))⟩
set_option maxRecDepth 100000 in
set_option maxHeartbeats 8000000 in
theorem drop_yes (p : Nat) (T : TWS) (hT : TOk T) (x : BitVec 64) (w w0 : World) (C X : List Blk) (K : List (Nat × Obj)) (H : Tw w w0 C X K p T) (i : Nat) (hi : idx T.all x = some i) :
    Calls Try.prog 24 #[tptr p, .agg #[.int .u8 (by8 x 0), .int .u8 (by8 x 1), .int .u8 (by8 x 2), .int .u8 (by8 x 3), .int .u8 (by8 x 4), .int .u8 (by8 x 5), .int .u8 (by8 x 6), .int .u8 (by8 x 7)]] w fun e w' => e = .returned (.bool true) ∧ Tw w' w0 C X K p { T with all := T.all.eraseIdx i } := by
  obtain ⟨tv, m, es, ck, R, vs, O, D⟩ := H.open_
  have HB := O.blk (List.mem_cons_self ..)
  have lt := HB.lt
  have c1 : w.cell? ⟨p, 1, none⟩ = some tv := HB.cell 1
  have c2 : w.cell? ⟨p, 2, none⟩ = some (.map (some m)) := HB.cell 2
  have HO := Lib.hid (O.key #[.int .u8 (by8 x 0), .int .u8 (by8 x 1), .int .u8 (by8 x 2), .int .u8 (by8 x 3), .int .u8 (by8 x 4), .int .u8 (by8 x 5), .int .u8 (by8 x 6), .int .u8 (by8 x 7)] 27 w.heap.size rfl)
  have HD := Lib.hid D
  clear HB H
  obtain ⟨hlt, hih⟩ := idx_some hi
  obtain ⟨r, kcap, cur, rfl, hkc, hkm, rfl, hcs, htk, HR, -⟩ := D.at_ (C := [_]) O hlt
  have HI : Hid (idxV T.all x = some (.int .i64 (i : Int))) := by show _ = _; unfold idxV; rw [hi]; rfl
  obtain ⟨M, hM⟩ : ∃ M, T.all.length = M + 1 := ⟨T.all.length - 1, by omega⟩
  have hvl := D.len
  have hone : Hid (∀ u ∈ cur.toList.take ((M + 1) * 10), u.oneCell' = true) := by
    show ∀ u ∈ _, _
    rw [← hM, htk]
    exact ecs_mem _ _ D.box.one
  have hst := midV_start hT.dis hlt
  rw [hih] at hst
  have HST := Lib.hid hst
  obtain ⟨al, hal⟩ : ∃ al, al = T.all.eraseIdx i := ⟨_, rfl⟩
  obtain ⟨us, hus⟩ : ∃ us, us = vs.eraseIdx i := ⟨_, rfl⟩
  have hall : al.length = M := by rw [hal, List.length_eraseIdx]; simp [hlt]; omega
  have husl : us.length = al.length := by rw [hus, hal, List.length_eraseIdx, List.length_eraseIdx, hvl]
  have HMS : Hid (Msgs w0 X us (al.map (·.l))) := by show Msgs _ _ _ _; rw [hus, hal, map_erase]; exact D.box.erase i
  have HDis : Hid (Dis al) := by show Dis _; rw [hal]; exact hT.dis.erase i
  have HTK : Hid (∀ zs, (writeAt (writeAt cur (i * 10) ((cur.toList.take ((M + 1) * 10)).drop ((i + 1) * 10))) (M * 10) zs).toList.take (M * 10) = ecs al us) := fun zs => by
    have h1 := del_at cur (M + 1) i (by omega) (by omega) zs
    rw [Nat.add_sub_cancel] at h1
    rw [h1, ← hM, htk, ecs_erase T.all vs hvl i hlt, hal, hus]
  have HAL := Lib.hid hal
  rw [← hal] at HST
  have hmaxl : M + 1 ≤ 4096 := by have := hT.len; have := hT.room; omega
  have hiM : i ≤ M := by omega
  have hcM : ¬ kcap = M := by omega
  have hci : ¬ kcap = i := by omega
  have hic : i ≤ kcap := by omega
  have HM := Lib.hid hM
  clear O D HR htk hih hi hst hal hus hvl
  rw [hM] at HO c1 HD hkc
  clear hM
  go_enter Try.func24, Try.ntmps24
  go_wp2_with fail
  refine wp_region_rq (by kernel_rfl) (by kernel_rfl) (by kernel_rfl) ?_
  repeat (first
    | (refine B_skip ?_ ?_; (· rfl); (try simp only [Act.put, List.setIfInBounds_toArray, List.set_cons_zero, List.set_cons_succ]))
    | (refine B_move rfl ?_ ?_; (· rfl); (try simp only [Act.eval, Act.put, Array.getD_eq_getD_getElem?, List.getElem?_toArray, List.getElem?_cons_succ, List.getElem?_cons_zero, Option.getD_some, List.setIfInBounds_toArray, List.set_cons_zero, List.set_cons_succ]))
    | (refine B_plain ?_ ?_; (· rfl); intro K hK; go_big_quiet_op; with_reducible refine hK _ ?_; clear hK K)
    | (refine B_nilck rfl rfl ?_ ?_; (· rfl); (try simp only [Act.put, List.setIfInBounds_toArray, List.set_cons_zero, List.set_cons_succ]))
    | (refine B_look2 HD.out.map mapI (HO.out.has _ (List.mem_cons_self ..)) (.tmp 15) (.tmp 16) rfl (by rfl) x (by rfl) vz_int (.tuple #[.int .i64 (i : Int), .bool true]) (by rw [HI.out]; rfl) rfl ?_ ?_ ?_; (· rfl); (· rfl); (try simp only [Act.put, List.setIfInBounds_toArray, List.set_cons_zero, List.set_cons_succ])))
  refine B_nil ?_ rfl ?_ ?_
  · kernel_rfl
  · rfl
  rintro _ ⟨⟨g1, d1⟩, rfl⟩
  simp only [fin, Act.put, List.setIfInBounds_toArray, List.set_cons_zero, List.set_cons_succ]
  go_wp2_with fail
  refine wp_opq (fun W => Omw W w0 (⟨r, 29, cur⟩ :: (⟨p, 122, #[.int .i64 T.room, .slice (some ⟨r, 0, none⟩) (M + 1) kcap, .map (some m)]⟩ :: (⟨w.heap.size, 27, #[.int .u8 (by8 x 0), .int .u8 (by8 x 1), .int .u8 (by8 x 2), .int .u8 (by8 x 3), .int .u8 (by8 x 4), .int .u8 (by8 x 5), .int .u8 (by8 x 6), .int .u8 (by8 x 7)]⟩ :: (C ++ X)))) ((m, .map es ck) :: K)) ((HO.out.perm (perm_cnt fun x => by simp only [cnt_append, cnt_cons, cnt_nil] <;> omega)).of_below (by (repeat' (first | (with_reducible exact Below.refl _ _) | (with_reducible refine bplus ?_ _ _) | (with_reducible refine balloc ?_ _) | (with_reducible refine Below.drew ?_) | (with_reducible refine bdrewN ?_ _) | (with_reducible refine Below.setCell ?_ (by go_size) _))))) ?_
  intro W2 O2
  have HO2 := Lib.hid O2
  have HBp := O2.blk (b := p) (t := 122) (cs := #[.int .i64 T.room, .slice (some ⟨r, 0, none⟩) (M + 1) kcap, .map (some m)]) (by simp)
  have lt2 := HBp.lt
  have c22 : W2.cell? ⟨p, 2, none⟩ = some (.map (some m)) := HBp.cell 2
  have HBa := O2.blk (b := w.heap.size) (t := 27) (cs := #[.int .u8 (by8 x 0), .int .u8 (by8 x 1), .int .u8 (by8 x 2), .int .u8 (by8 x 3), .int .u8 (by8 x 4), .int .u8 (by8 x 5), .int .u8 (by8 x 6), .int .u8 (by8 x 7)]) (by simp)
  have hca := HBa.cell
  have lta := HBa.lt
  (have a0 := hca 0); (have a1 := hca 1); (have a2 := hca 2); (have a3 := hca 3); (have a4 := hca 4); (have a5 := hca 5); (have a6 := hca 6); (have a7 := hca 7)
  simp only [List.getElem?_toArray, List.getElem?_cons_succ, List.getElem?_cons_zero] at a0 a1 a2 a3 a4 a5 a6 a7
  clear O2 HBp HBa hca HO c1 c2 lt
  refine wp_region_rc 5 1 (by kernel_rfl) (by kernel_rfl) (by kernel_rfl) (by kernel_rfl) ?_
  simp only [List.take_succ_cons, List.take_zero]
  repeat (first
    | (refine B_skip ?_ ?_; (· rfl); (try simp only [Act.put, List.setIfInBounds_toArray, List.set_cons_zero, List.set_cons_succ]))
    | (refine B_move rfl ?_ ?_; (· rfl); (try simp only [Act.eval, Act.put, Array.getD_eq_getD_getElem?, List.getElem?_toArray, List.getElem?_cons_succ, List.getElem?_cons_zero, Option.getD_some, List.setIfInBounds_toArray, List.set_cons_zero, List.set_cons_succ]))
    | (refine B_plain ?_ ?_; (· rfl); intro K hK; go_big_quiet_op; with_reducible refine hK _ ?_; clear hK K)
    | (refine B_nilck rfl rfl ?_ ?_; (· rfl); (try simp only [Act.put, List.setIfInBounds_toArray, List.set_cons_zero, List.set_cons_succ])))
  refine B_nil ?_ rfl ?_ ?_
  · kernel_rfl
  · rfl
  rintro _ ⟨⟨g2, d2⟩, rfl⟩
  simp only [fin, Act.put, List.setIfInBounds_toArray, List.set_cons_zero, List.set_cons_succ]
  refine last_one (k := 5) (by kernel_rfl) (by kernel_rfl) (by rfl) ?_ ?_
  · rfl
  intro K' hK
  refine (HO2.out.plus _ _).delK HD.out.map mapI (.tmp 25) (.tmp 26) 27 (by rfl) (by rfl) x (by rfl) (fun es3 w3 O3 D3 => hK _ _ ?_)
  rw [HST.out] at D3
  have HBp := O3.blk (b := p) (t := 122) (cs := #[.int .i64 T.room, .slice (some ⟨r, 0, none⟩) (M + 1) kcap, .map (some m)]) (by simp)
  have lt3 := HBp.lt
  have c13 : w3.cell? ⟨p, 1, none⟩ = some (.slice (some ⟨r, 0, none⟩) (M + 1) kcap) := HBp.cell 1
  have HO3 := Lib.hid O3
  have HD3 := Lib.hid D3
  clear hK K' HBp O3 D3 a0 a1 a2 a3 a4 a5 a6 a7 lta lt2 c22 HO2
  (try simp only [Act.put, List.getElem_toArray, List.getElem_cons_succ, List.getElem_cons_zero])
  go_wp2_with fail
  refine (adelete_one r M kcap cur _ _ i hiM hkc hkm hcs hone.out w3 w0 HO3.out).mono ?_
  rintro e w4 ⟨rfl, zs, O4⟩
  obtain ⟨cur4, hc4⟩ : ∃ c, c = writeAt (writeAt cur (i * 10) ((cur.toList.take ((M + 1) * 10)).drop ((i + 1) * 10))) (M * 10) zs := ⟨_, rfl⟩
  have HTK4 : Hid (cur4.toList.take (M * 10) = ecs al us) := by show _ = _; rw [hc4]; exact HTK.out zs
  have hcs4 : Hid (cur4.size = kcap * 10) := by show _ = _; rw [hc4, writeAt_len, writeAt_len]; exact hcs
  rw [← hc4] at O4
  have HBp := O4.blk (b := p) (t := 122) (cs := #[.int .i64 T.room, .slice (some ⟨r, 0, none⟩) (M + 1) kcap, .map (some m)]) (by simp)
  have lt4 := HBp.lt
  have c14 := HBp.cell 1
  have f14 := HBp.frozen 1
  simp only [List.getElem?_toArray, List.getElem?_cons_succ, List.getElem?_cons_zero] at c14
  have HO4 := Lib.hid (O4.perm (X' := ⟨p, 122, #[.int .i64 T.room, .slice (some ⟨r, 0, none⟩) (M + 1) kcap, .map (some m)]⟩ :: (⟨w.heap.size, 27, #[.int .u8 (by8 x 0), .int .u8 (by8 x 1), .int .u8 (by8 x 2), .int .u8 (by8 x 3), .int .u8 (by8 x 4), .int .u8 (by8 x 5), .int .u8 (by8 x 6), .int .u8 (by8 x 7)]⟩ :: (⟨r, 29, cur4⟩ :: (C ++ X)))) (perm_cnt fun x => by simp only [cnt_append, cnt_cons, cnt_nil] <;> omega))
  clear hc4 O4 HBp HO3 HTK lt3 c13
  go_wp2_with fail
  refine wp_opq (fun W => Omw W w0 (⟨p, 122, #[.int .i64 T.room, .slice (some ⟨r, 0, none⟩) M kcap, .map (some m)]⟩ :: (⟨r, 29, cur4⟩ :: (C ++ X))) ((m, .map es3 ck) :: K)) (Omw.drop1 (((HO4.out.set 1 _).as (X' := ⟨p, 122, #[.int .i64 T.room, .slice (some ⟨r, 0, none⟩) M kcap, .map (some m)]⟩ :: (⟨w.heap.size, 27, #[.int .u8 (by8 x 0), .int .u8 (by8 x 1), .int .u8 (by8 x 2), .int .u8 (by8 x 3), .int .u8 (by8 x 4), .int .u8 (by8 x 5), .int .u8 (by8 x 6), .int .u8 (by8 x 7)]⟩ :: (⟨r, 29, cur4⟩ :: (C ++ X)))) (by simp)).perm (X' := ⟨w.heap.size, 27, #[.int .u8 (by8 x 0), .int .u8 (by8 x 1), .int .u8 (by8 x 2), .int .u8 (by8 x 3), .int .u8 (by8 x 4), .int .u8 (by8 x 5), .int .u8 (by8 x 6), .int .u8 (by8 x 7)]⟩ :: (⟨p, 122, #[.int .i64 T.room, .slice (some ⟨r, 0, none⟩) M kcap, .map (some m)]⟩ :: (⟨r, 29, cur4⟩ :: (C ++ X)))) (perm_cnt fun x => by simp only [cnt_append, cnt_cons, cnt_nil] <;> omega))) ?_
  intro w5 O5
  have HBp := O5.blk (List.mem_cons_self ..)
  have lt5 := HBp.lt
  have c15 : w5.cell? ⟨p, 1, none⟩ = some (.slice (some ⟨r, 0, none⟩) M kcap) := HBp.cell 1
  have HO5 := Lib.hid O5
  clear O5 HBp HO4 c14 f14 lt4
  go_wp2_with fail
  go_loopw [45] (fun vi wr => ∃ (k : Nat) (es' : Array MapEntry) (ck' : Nat), vi = .int .i64 k ∧ k ≤ M - i ∧ Omw wr w0 (⟨p, 122, #[.int .i64 T.room, .slice (some ⟨r, 0, none⟩) M kcap, .map (some m)]⟩ :: (⟨r, 29, cur4⟩ :: (C ++ X))) ((m, .map es' ck') :: K) ∧ MapD es' ck' (midV al (i + k))) (fun vi _ => M - i - (RowKit.intOf vi).toNat)
  case atStart => exact ⟨0, es3, ck, rfl, by omega, HO5.out, HD3.out⟩
  case round =>
    obtain ⟨k, es6, ck6, rfl, hk, O6, D6⟩ := hrel
    have HBp := O6.blk (List.mem_cons_self ..)
    have lt6 := HBp.lt
    have c26 : wr.cell? ⟨p, 2, none⟩ = some (.map (some m)) := HBp.cell 2
    have HR6 := O6.blk (b := r) (t := 29) (cs := cur4) (by simp)
    have rl6 := HR6.lt
    by_cases hltk : k < M - i
    · obtain ⟨y, hy⟩ : ∃ y, al.getD (i + k) default = y := ⟨_, rfl⟩
      obtain ⟨bv, hbv⟩ : ∃ y, us.getD (i + k) undef = y := ⟨_, rfl⟩
      have hcell : ∀ j, j < 10 → wr.cell? ⟨r, i * 10 + k * 10 + j, none⟩ = (acs y bv)[j]? := fun j hj => by
        have h4 := ecs_get al us (i + k) j husl (by omega) hj
        rw [← HTK4.out, List.getElem?_take, if_pos (by omega), Array.getElem?_toList, hy, hbv] at h4
        rw [HR6.cell, ← h4]
        congr 1
        omega
      have a0 : wr.cell? ⟨r, i * 10 + k * 10, none⟩ = some (.int .u8 (by8 y.h 0)) := hcell 0 (by omega)
      have a1 : wr.cell? ⟨r, i * 10 + k * 10 + 1, none⟩ = some (.int .u8 (by8 y.h 1)) := hcell 1 (by omega)
      have a2 : wr.cell? ⟨r, i * 10 + k * 10 + 2, none⟩ = some (.int .u8 (by8 y.h 2)) := hcell 2 (by omega)
      have a3 : wr.cell? ⟨r, i * 10 + k * 10 + 3, none⟩ = some (.int .u8 (by8 y.h 3)) := hcell 3 (by omega)
      have a4 : wr.cell? ⟨r, i * 10 + k * 10 + 4, none⟩ = some (.int .u8 (by8 y.h 4)) := hcell 4 (by omega)
      have a5 : wr.cell? ⟨r, i * 10 + k * 10 + 5, none⟩ = some (.int .u8 (by8 y.h 5)) := hcell 5 (by omega)
      have a6 : wr.cell? ⟨r, i * 10 + k * 10 + 6, none⟩ = some (.int .u8 (by8 y.h 6)) := hcell 6 (by omega)
      have a7 : wr.cell? ⟨r, i * 10 + k * 10 + 7, none⟩ = some (.int .u8 (by8 y.h 7)) := hcell 7 (by omega)
      have a8 : wr.cell? ⟨r, i * 10 + k * 10 + 8, none⟩ = some (.int .i64 y.n) := hcell 8 (by omega)
      have a9 : wr.cell? ⟨r, i * 10 + k * 10 + 9, none⟩ = some bv := hcell 9 (by omega)
      have hbm : Msg w0 X bv y.l := by
        obtain ⟨b2, h1, h2⟩ := HMS.out.get (i + k) (by simp; omega)
        have h3 : (al.map (·.l)).getD (i + k) [] = y.l := by
          rw [← hy, List.getD_eq_getElem?_getD, List.getD_eq_getElem?_getD, List.getElem?_map, List.getElem?_eq_getElem (by omega)]; rfl
        rw [h3] at h2
        rw [← hbv, List.getD_eq_getElem?_getD, h1]
        exact h2
      obtain ⟨ab, cb, rfl⟩ := hbm.slice
      have HMT : Hid (putF (midV al (i + k)) y.h (.int .i64 ((i : Int) + (k : Int))) = midV al (i + (k + 1))) := by
        show _ = _
        have h1 := midV_step HDis.out (i + k) (by omega)
        rw [hy] at h1
        rw [← Nat.add_assoc, ← h1]
        simp
      have HO6 := Lib.hid (O6.key #[.int .u8 (by8 y.h 0), .int .u8 (by8 y.h 1), .int .u8 (by8 y.h 2), .int .u8 (by8 y.h 3), .int .u8 (by8 y.h 4), .int .u8 (by8 y.h 5), .int .u8 (by8 y.h 6), .int .u8 (by8 y.h 7), .int .i64 y.n, .slice ab y.l.length cb] 29 wr.heap.size rfl)
      have HD6 := Lib.hid D6
      clear HBp HR6 hcell hy hbv hbm O6 D6 HO5
      go_wp2_with fail
      refine wp_region_rc 9 1 (by kernel_rfl) (by kernel_rfl) (by kernel_rfl) (by kernel_rfl) ?_
      simp only [List.take_succ_cons, List.take_zero]
      repeat (first
        | (refine B_skip ?_ ?_; (· rfl); (try simp only [Act.put, List.setIfInBounds_toArray, List.set_cons_zero, List.set_cons_succ]))
        | (refine B_move rfl ?_ ?_; (· rfl); (try simp only [Act.eval, Act.put, Array.getD_eq_getD_getElem?, List.getElem?_toArray, List.getElem?_cons_succ, List.getElem?_cons_zero, Option.getD_some, List.setIfInBounds_toArray, List.set_cons_zero, List.set_cons_succ]))
        | (refine B_plain ?_ ?_; (· rfl); intro K hK; go_big_quiet_op; with_reducible refine hK _ ?_; clear hK K)
        | (refine B_nilck rfl rfl ?_ ?_; (· rfl); (try simp only [Act.put, List.setIfInBounds_toArray, List.set_cons_zero, List.set_cons_succ])))
      refine B_nil ?_ rfl ?_ ?_
      · kernel_rfl
      · rfl
      rintro _ ⟨⟨g7, d7⟩, rfl⟩
      simp only [fin, Act.put, List.setIfInBounds_toArray, List.set_cons_zero, List.set_cons_succ]
      refine last_one (k := 9) (by kernel_rfl) (by kernel_rfl) (by rfl) ?_ ?_
      · rfl
      intro K' hK
      refine (HO6.out.plus _ _).putK HD6.out mapI (.tmp 53) (.tmp 55) (.tmp 58) (by rfl) (by rfl) y.h (by rfl) (.int .i64 ((i : Int) + (k : Int))) (by rfl) (fun es7 ck7 w7 O7 D7 => hK _ _ ?_)
      rw [HMT.out] at D7
      have HO7 := Lib.hid O7
      have HD7 := Lib.hid D7
      clear hK K' O7 D7 HO6 HD6
      (try simp only [Act.put, List.getElem_toArray, List.getElem_cons_succ, List.getElem_cons_zero])
      go_wp2
      exact ⟨⟨k + 1, es7, ck7, by simp, by omega, HO7.out.drop1, HD7.out⟩, by simp [RowKit.intOf]; omega⟩
    · obtain rfl : k = M - i := by omega
      have HO6 := Lib.hid O6
      have HD6 := Lib.hid D6
      clear HBp HR6 O6 D6 HO5 c26 lt6 rl6
      go_wp2
      go_ret
      refine ⟨rfl, ?_⟩
      have hD := HD6.out
      rw [midV_end al _ (by omega)] at hD
      have hR := Row.one (e := 29) (sz := 10) r M kcap cur4 (by omega) hkm hcs4.out
      rw [HTK4.out] at hR
      rw [← HAL.out]
      exact Tw.close (T := ⟨T.room, al⟩) (v := .slice (some ⟨r, 0, none⟩) M kcap) (m := m) (es := es6) (ck := ck6) (R := [⟨r, 29, cur4⟩]) (vs := us) HO6.out ⟨by simpa [hall] using hR, husl, HMS.out, hD⟩

/-- Drop, whatever hint. -/
def hadT (T : TWS) (x : BitVec 64) : Bool := (idx T.all x).isSome
theorem drop_to (p : Nat) (T : TWS) (hT : TOk T) (x : BitVec 64) (w w0 : World) (C X : List Blk) (K : List (Nat × Obj)) (H : Tw w w0 C X K p T) (b : Bool) (hb : hadT T x = b) (T' : TWS) (hT' : dropT T x = T') :
    Calls Try.prog 24 #[tptr p, .agg #[.int .u8 (by8 x 0), .int .u8 (by8 x 1), .int .u8 (by8 x 2), .int .u8 (by8 x 3), .int .u8 (by8 x 4), .int .u8 (by8 x 5), .int .u8 (by8 x 6), .int .u8 (by8 x 7)]] w fun e w' => e = .returned (.bool b) ∧ Tw w' w0 C X K p T' := by
  unfold hadT at hb
  unfold dropT at hT'
  cases hi : idx T.all x with
  | none =>
    rw [hi] at hb hT'
    subst hb hT'
    refine (drop_none p T x w w0 C X K H hi).mono ?_
    rintro e w' ⟨rfl, hB⟩
    exact ⟨rfl, H.of_below hB⟩
  | some i =>
    rw [hi] at hb hT'
    subst hb hT'
    exact drop_yes p T hT x w w0 C X K H i hi

end Go.Proofs.Ytghaiplhakeahaa
