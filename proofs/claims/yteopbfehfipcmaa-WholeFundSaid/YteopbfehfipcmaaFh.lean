/- fund: what the law's book is worth; the law's awakeFund. -/
import Derived.Test.YteopbfehfipcmaaFg
namespace Go.Proofs.Yteopbfehfipcmaa
set_option linter.unusedSimpArgs false
set_option linter.unusedVariables false
open Go.RowKit Go.WideMaps Go.ChangeMaps Go.Maps

theorem ents_keys {es : Array MapEntry} {ck : Nat} {M : BitVec 64 → Int} (D : MapD es ck (bkV M)) : ∀ l : List MapEntry, (∀ e ∈ l, e ∈ es.toList) → ∃ xs : List (BitVec 64), l.map (·.key) = xs.map (fun x => .agg #[.int .u8 (by8 x 0), .int .u8 (by8 x 1), .int .u8 (by8 x 2), .int .u8 (by8 x 3), .int .u8 (by8 x 4), .int .u8 (by8 x 5), .int .u8 (by8 x 6), .int .u8 (by8 x 7)]) ∧ sumE l = (xs.map M).sum ∧ ∀ x ∈ xs, M x ≠ 0
  | [], _ => ⟨[], rfl, rfl, by simp⟩
  | e :: l, h => by
    obtain ⟨xs, h1, h2, h3⟩ := ents_keys D l fun y hy => h y (by simp [hy])
    obtain ⟨x, hk, hv, hn⟩ := D.val (h e (by simp))
    refine ⟨x :: xs, by simp [h1, hk], ?_, ?_⟩
    · rw [sumE_cons, h2, hv]
      simp [moneyOf]
    · intro y hy
      rcases List.mem_cons.1 hy with rfl | hy
      · exact hn
      · exact h3 y hy
theorem sum_filter (M : BitVec 64 → Int) : ∀ l : List (BitVec 64), ((l.filter fun x => !(M x == 0)).map M).sum = (l.map M).sum
  | [] => rfl
  | x :: l => by
    by_cases h : M x = 0
    · rw [List.filter_cons_of_neg (by simp [h]), sum_filter M l]
      simp [h]
    · rw [List.filter_cons_of_pos (by simp [h])]
      simp [sum_filter M l]
theorem sumE_keys (ks : List (BitVec 64)) (hn : ks.Nodup) (M : BitVec 64 → Int) (hz : ∀ x, M x ≠ 0 → x ∈ ks) {es : Array MapEntry} {ck : Nat} (D : MapD es ck (bkV M)) : sumE es.toList = (ks.map M).sum := by
  obtain ⟨xs, h1, h2, h3⟩ := ents_keys D es.toList fun _ h => h
  have hxn : xs.Nodup := by
    have h4 : (xs.map fun x => (.agg #[.int .u8 (by8 x 0), .int .u8 (by8 x 1), .int .u8 (by8 x 2), .int .u8 (by8 x 3), .int .u8 (by8 x 4), .int .u8 (by8 x 5), .int .u8 (by8 x 6), .int .u8 (by8 x 7)] : Value)).Nodup := by
      rw [← h1]
      exact List.pairwise_map.2 D.apart
    have h5 := List.pairwise_map.1 h4
    exact h5.imp fun h e => h (by rw [e])
  have hp : xs.Perm (ks.filter fun x => !(M x == 0)) := by
    rw [List.perm_ext_iff_of_nodup hxn (hn.sublist List.filter_sublist)]
    intro x
    rw [List.mem_filter]
    constructor
    · intro hx
      exact ⟨hz x (h3 x hx), by simpa using h3 x hx⟩
    · rintro ⟨-, hx⟩
      have hx' : M x ≠ 0 := by simpa using hx
      have hg : bkV M x = some (.agg #[.int .i64 (M x), .int .i64 0]) := by unfold bkV; rw [if_neg hx']
      obtain ⟨e, he, hk, -⟩ := (D.get x _).1 hg
      have hm : e.key ∈ es.toList.map (·.key) := List.mem_map.2 ⟨e, he, rfl⟩
      rw [h1] at hm
      obtain ⟨y, hy, hyk⟩ := List.mem_map.1 hm
      have : y = x := dgv_inj (hyk.trans hk)
      rw [← this]; exact hy
  rw [h2, sum_perm (hp.map M), sum_filter]
theorem worth_book {F : FU} (h : FOk F) : Worth (bookM F) (500 * F.n) := by
  have h8 : F.n ≤ 8 := by have := h.five; omega
  constructor
  · intro x
    by_cases hg : x = goalX
    · rw [hg, bookM_goal h8]; exact (held_bd h F.n (Nat.le_refl _)).1
    · unfold bookM
      rw [if_neg hg]
      cases hq : find1 F.n x with
      | none => simp
      | some i =>
        have := h.giv i (find1_some hq).1
        simp only
        omega
  · intro es ck D
    rw [sumE_keys (goalX :: (List.range F.n).map kX) ?_ (bookM F) ?_ D]
    · rw [List.map_cons, List.sum_cons, bookM_goal h8, List.map_map]
      have key : ∀ m, m ≤ F.n → ((List.range m).map (bookM F ∘ kX)).sum = 500 * m - heldS F m := by
        intro m
        induction m with
        | zero => intro _; simp [heldS]
        | succ m ih =>
          intro hm
          rw [List.range_succ, List.map_append, List.sum_append, ih (by omega), heldS_succ]
          simp only [List.map_cons, List.map_nil, List.sum_cons, List.sum_nil, Function.comp_apply]
          rw [bookM_key h8 m (by omega)]
          omega
      rw [key F.n (Nat.le_refl _)]
      omega
    · rw [List.nodup_cons]
      constructor
      · intro hm
        obtain ⟨i, hi, he⟩ := List.mem_map.1 hm
        rw [List.mem_range] at hi
        exact kX_goal i (by omega) he
      · refine List.pairwise_map.2 ?_
        refine List.nodup_range.imp_of_mem ?_
        intro a b ha hb hab he
        rw [List.mem_range] at ha hb
        exact hab (kX_inj (by omega) (by omega) he)
    · intro x hx
      by_cases hg : x = goalX
      · rw [hg]; simp
      · unfold bookM at hx
        rw [if_neg hg] at hx
        cases hq : find1 F.n x with
        | none => rw [hq] at hx; exact absurd rfl hx
        | some i =>
          obtain ⟨h1, h2⟩ := find1_some hq
          exact List.mem_cons_of_mem _ (List.mem_map.2 ⟨i, List.mem_range.2 h1, h2⟩)
def awF : FU := newF 2 (fun i => if i = 0 then 5 else 3) 10
set_option maxRecDepth 100000 in
set_option maxHeartbeats 4000000 in
theorem awake_to (w : World) : Calls Try.prog 5 #[] w fun e w' => e = .returned (.bool true) ∧ Below w.heap.size w w' := by
  have O1 : Omw (w.alloc (.cells #[.int .i64 5, .int .i64 3] 3)) w [] [] := (Omw.start w).alloc _
  have T := fnew_ok w.heap.size 2 2 (fun i => if i = 0 then 5 else 3) 10 _ w [] [] O1 (by omega) (by omega) (by omega) (by simp) (fun i hi => by
    rw [(HasBlk.new w 3 #[.int .i64 5, .int .i64 3] w.heap.size rfl).cell]
    match i, hi with
    | 0, _ => rfl
    | 1, _ => rfl) (fun i hi => by
    match i, hi with
    | 0, _ => simp
    | 1, _ => simp) (by omega)
  clear O1
  go_enter Try.func5, Try.ntmps5
  go_wp2_with fail
  refine T.mono ?_
  rintro e w2 ⟨p, rfl, O2⟩
  have HO2 : Hid (Omw w2 w [⟨p, 57, fcs awF⟩] []) := O2
  have TB : Hid (∀ W : World, ∀ F : FU, Omw W w [⟨p, 57, fcs F⟩] [] → HasBlk W p 57 (fcs F)) := fun W F O => O.blk (List.mem_cons_self ..)
  clear T O2
  go_wp2_with fail
  refine (lay_to p 0 awF w2 5 9 (TB.out _ _ HO2.out) (by simp [awF, newF]) (by simp [awF, newF]) 0 (by simp [layE, awF, newF])).mono ?_
  rintro e w3 ⟨rfl, hw3⟩
  rw [if_pos rfl] at hw3
  have O3 := HO2.out.set (9 + 0) (.bool true)
  rw [fcs_lay _ _ (by omega), ← hw3] at O3
  have HO3 := Lib.hid O3
  clear O3 hw3 HO2
  go_wp2_with fail
  refine (back_to p 0 (awF.lay 0 true) w3 9 (TB.out _ _ HO3.out) (by simp [awF, newF, FU.lay]) (by simp [awF, newF, FU.lay]) 5 0 (by simp [backE, awF, newF, FU.lay, fullB, List.range_succ])).mono ?_
  rintro e w4 ⟨rfl, w4', hb4, hw4⟩
  rw [if_pos rfl] at hw4
  have O4 := (HO3.out.of_below hb4).set (9 + 0) (.bool false)
  rw [fcs_lay _ _ (by omega), ← hw4] at O4
  have HO4 := Lib.hid O4
  clear O4 hw4 hb4 HO3
  go_wp2_with fail
  refine (lay_to p 0 ((awF.lay 0 true).lay 0 false) w4 5 10 (TB.out _ _ HO4.out) (by simp [awF, newF, FU.lay]) (by simp [awF, newF, FU.lay]) 0 (by simp [layE, awF, newF, FU.lay])).mono ?_
  rintro e w5 ⟨rfl, hw5⟩
  rw [if_pos rfl] at hw5
  have O5 := HO4.out.set (9 + 0) (.bool true)
  rw [fcs_lay _ _ (by omega), ← hw5] at O5
  have HO5 := Lib.hid O5
  clear O5 hw5 HO4
  go_wp2_with fail
  refine (lay_to p 1 (((awF.lay 0 true).lay 0 false).lay 0 true) w5 3 10 (TB.out _ _ HO5.out) (by simp [awF, newF, FU.lay]) (by simp [awF, newF, FU.lay]) 0 (by simp [layE, awF, newF, FU.lay])).mono ?_
  rintro e w6 ⟨rfl, hw6⟩
  rw [if_pos rfl] at hw6
  have O6 := HO5.out.set (9 + 1) (.bool true)
  rw [fcs_lay _ _ (by omega), ← hw6] at O6
  have HO6 := Lib.hid O6
  clear O6 hw6 HO5
  go_wp2_with fail
  refine (phase_to p ((((awF.lay 0 true).lay 0 false).lay 0 true).lay 1 true) w6 11 (TB.out _ _ HO6.out) (by simp [awF, newF, FU.lay]) 1 (by simp [phaseE, awF, newF, FU.lay, fullB, List.range_succ])).mono ?_
  rintro e w7 ⟨rfl, hb7⟩
  have HO7 := Lib.hid (HO6.out.of_below hb7)
  clear hb7 HO6
  go_wp2_with fail
  refine (held_to p ((((awF.lay 0 true).lay 0 false).lay 0 true).lay 1 true) w7 (TB.out _ _ HO7.out) (by simp [awF, newF, FU.lay]) (fun k hk => ?_)).mono ?_
  · have hk2 : k < 2 := hk
    match k, hk2 with
    | 0, _ => simp [givE, awF, newF, FU.lay]
    | 1, _ => simp [givE, awF, newF, FU.lay]
  rintro e w8 ⟨rfl, rfl⟩
  have h8 : heldS ((((awF.lay 0 true).lay 0 false).lay 0 true).lay 1 true) ((((awF.lay 0 true).lay 0 false).lay 0 true).lay 1 true).n = 8 := by
    show heldS _ 2 = 8
    simp [heldS, List.range_succ, givE, awF, newF, FU.lay]
  rw [h8]
  have HB := Lib.hid HO7.out.below
  clear HO7 h8
  go_wp2
  go_ret
  exact ⟨rfl, HB.out⟩

end Go.Proofs.Yteopbfehfipcmaa
