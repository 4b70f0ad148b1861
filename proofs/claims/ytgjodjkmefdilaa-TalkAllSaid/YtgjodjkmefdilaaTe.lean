/- talk: contract of slices.Delete from the front of a row of messages. -/
import Derived.Test.YtgjodjkmefdilaaTc
import Derived.Deep.RegionLaw
import Derived.Lib.SliceRun
namespace Go.Proofs.Ytgjodjkmefdilaa
set_option linter.unusedSimpArgs false
set_option linter.unusedVariables false
open Go.RowKit Go.Lib

theorem vz_msg (w : World) : (zeroValue 34).run Try.prog w = .ok (.slice none 0 0) w := by
  have h : (Try.prog.info? 34).bind (·.zero) = some (.slice none 0 0) := by kernel_rfl
  obtain ⟨i, hi, hz⟩ := Option.bind_eq_some_iff.1 h
  simp [zeroValue, typeInfo, hi, hz]
theorem writeAt_size (vs : List Value) : ∀ (cs : Array Value) (o : Nat), (writeAt cs o vs).size = cs.size := by
  induction vs with
  | nil => intro cs o; rfl
  | cons v r ih => intro cs o; rw [writeAt, ih]; simp
theorem del_take (cur : Array Value) (N n : Nat) (hn : n ≤ N) (hN : N ≤ cur.size) (zs : List Value) :
    (writeAt (writeAt cur 0 ((cur.toList.take N).drop n)) (N - n) zs).toList.take (N - n) = (cur.toList.take N).drop n := by
  apply List.ext_getElem?
  intro i
  have hl : ((cur.toList.take N).drop n).length = N - n := by simp; omega
  rw [List.getElem?_take]
  split
  · rename_i hi
    rw [Array.getElem?_toList, writeAt_get, if_neg (by omega), writeAt_get, if_pos (by rw [hl]; omega)]
    simp
  · rw [List.getElem?_eq_none (by omega)]

set_option maxRecDepth 1000000 in
set_option maxHeartbeats 4000000 in
theorem delete_one (r N cap : Nat) (cur : Array Value) (F : List Blk) (n : Nat) (h0 : 0 < n) (hn : n ≤ N) (hc : N ≤ cap) (hm : cap ≤ maxLen) (hs : cur.size = cap) (h1 : ∀ u ∈ cur.toList.take N, u.oneCell' = true) (w w0 : World) (O : Ow w w0 (⟨r, 34, cur⟩ :: F)) :
    Calls Try.prog 37 #[.slice (some ⟨r, 0, none⟩) N cap, .int .i64 (0 : Nat), .int .i64 n] w fun e w' => e = .returned (.slice (some ⟨r, 0, none⟩) (N - n) cap) ∧ Ow w' w0 (⟨r, 34, writeAt (writeAt cur 0 ((cur.toList.take N).drop n)) (N - n) (List.replicate n (.slice none 0 0))⟩ :: F) := by
  have hm' : cap ≤ 9223372036854775807 := by simp only [maxLen] at hm; omega
  obtain ⟨i0, z0, ht, hi0, hz0, hz1, -, -, -⟩ := elt_msg
  obtain ⟨news, hnews⟩ : ∃ news, news = (cur.toList.take N).drop n := ⟨_, rfl⟩
  rw [← hnews]
  have hlen : news.length = N - n := by rw [hnews]; simp; omega
  have hget : ∀ t u, news[t]? = some u → cur[n + t]? = some u := by
    intro t u hu
    rw [hnews, List.getElem?_drop, List.getElem?_take] at hu
    split at hu
    · rwa [Array.getElem?_toList] at hu
    · cases hu
  have OD : Ow w.drew w0 (⟨r, 34, cur⟩ :: F) := ⟨O.mem.drew, O.new⟩
  have HBD := OD.has (List.mem_cons_self ..)
  obtain ⟨A, hA, hsrc⟩ : ∃ A : Addr, (if cap = n then some (⟨r, 0, none⟩ : Addr) else some ⟨r, n, none⟩) = some A ∧ Hid (∀ t u, news[t]? = some u → w.drew.cell? (A.add t) = some u) := by
    by_cases h : cap = n
    · refine ⟨⟨r, 0, none⟩, by simp [h], fun t u hu => ?_⟩
      have h0 : news.length = 0 := by rw [hlen]; omega
      rw [List.length_eq_zero_iff.1 h0] at hu
      simp at hu
    · refine ⟨⟨r, n, none⟩, by simp [h], fun t u hu => ?_⟩
      have hadd : (⟨r, n, none⟩ : Addr).add t = ⟨r, n + t, none⟩ := by unfold Addr.add; split <;> simp_all
      rw [hadd, HBD.cell]
      exact hget t u hu
  have s1 : Hid (news.length = (N - n) * 1) := by show _ = _; rw [Nat.mul_one]; exact hlen
  have s2 : Hid (∀ u ∈ news, u.oneCell' = true) := fun u hu => h1 u (by rw [hnews] at hu; exact List.mem_of_mem_drop hu)
  have s3 : Hid (∀ t, t < news.length → (w.drew.cell? ⟨r, 0 + 0 * 1 + t, none⟩).isSome = true ∧ w.drew.frozen? ⟨r, 0 + 0 * 1 + t, none⟩ = false) := by
    intro t ht
    rw [HBD.cell, HBD.frozen]
    exact ⟨by rw [Array.getElem?_eq_getElem (by omega)]; rfl, rfl⟩
  obtain ⟨W1, hW1⟩ : ∃ W1, W1 = w.drew.setCells r (0 + 0 * 1) news := ⟨_, rfl⟩
  have O1 : Ow W1 w0 (⟨r, 34, writeAt cur 0 news⟩ :: F) := ⟨by rw [hW1]; exact Mem.cells (B := []) news 0 OD.mem, New.cons (O.new ⟨r, 34, cur⟩ (List.mem_cons_self ..)) fun x hx => O.new x (List.mem_cons_of_mem _ hx)⟩
  have HB1 := O1.has (List.mem_cons_self ..)
  have hcl : ∀ ty, (Builtin.clear_ #[25] ty #[.slice (some ⟨r, 0 + (N - n), none⟩) (N - (N - n)) (cap - (N - n))]).run Try.prog W1 = .ok (.tuple #[]) (W1.setCells r (0 + (N - n)) (List.replicate (N - (N - n)) (.slice none 0 0))) :=
    fun ty => Lib.run_clear_slice W1 _ _ ty _ ht vz_msg rfl rfl r (0 + (N - n)) _ _ (by omega) (fun t ht => by rw [HB1.cell, Array.getElem?_eq_getElem (by rw [writeAt_size]; omega)]; rfl) (fun t ht => HB1.frozen _)
  simp only [Nat.zero_add] at hcl
  have hW : Hid (W1 = w.drew.setCells r (0 + 0 * 1) news) := hW1
  have HO1 := Lib.hid O1
  have hnc : n ≤ cap := by omega
  clear hW1 OD HBD O1 HB1 hget hnews hlen O h1
  go_enter Try.func37, Try.ntmps37
  go_wp2_with fail
  go_region_law (refine step_append_room rfl (.tmp 22) (.tmp 25) 25 rfl 34 i0 1 ht hi0 hz1 r 0 0 cap (by simp [Act.eval, Act.put]) A (N - n) (cap - n) news (by simp [Act.eval, Act.put]) s1.out hsrc.out s2.out (by omega) s3.out ?_; rw [← hW.out])
  go_wp2
  go_ret
  refine ⟨rfl, ⟨?_, ?_⟩⟩
  · have := Mem.cells (B := []) (List.replicate (N - (N - n)) (.slice none 0 0)) (N - n) HO1.out.mem
    rw [show N - (N - n) = n by omega] at this ⊢
    exact this
  · exact New.cons (HO1.out.new ⟨r, 34, writeAt cur 0 news⟩ (List.mem_cons_self ..)) fun x hx => HO1.out.new x (List.mem_cons_of_mem _ hx)

theorem delete_row (v : Value) (N n : Nat) (xs : List Value) (B F : List Blk) (h0 : 0 < n) (hn : n ≤ N) (hR : Row 34 1 v N xs B) (h1 : ∀ u ∈ xs, u.oneCell' = true) (w w0 : World) (O : Ow w w0 (B ++ F)) :
    Calls Try.prog 37 #[v, .int .i64 (0 : Nat), .int .i64 n] w fun e w' => ∃ v' B', e = .returned v' ∧ Row 34 1 v' (N - n) (xs.drop n) B' ∧ Ow w' w0 (B' ++ F) := by
  cases hR with
  | void => omega
  | one r N cap cur k1 k2 k3 =>
    rw [Nat.mul_one] at h1
    refine (delete_one r N cap cur F n h0 hn k1 k2 (by omega) h1 w w0 O).mono ?_
    rintro e w' ⟨rfl, O'⟩
    refine ⟨_, [⟨r, 34, writeAt (writeAt cur 0 ((cur.toList.take N).drop n)) (N - n) (List.replicate n (.slice none 0 0))⟩], rfl, ?_, O'⟩
    have := Row.one (e := 34) (sz := 1) r (N - n) cap (writeAt (writeAt cur 0 ((cur.toList.take N).drop n)) (N - n) (List.replicate n (.slice none 0 0))) (by omega) k2 (by rw [writeAt_size, writeAt_size]; omega)
    rw [Nat.mul_one, del_take cur N n hn (by omega)] at this
    rw [Nat.mul_one]
    exact this

end Go.Proofs.Ytgjodjkmefdilaa
