/- talk: contract of the reference's Tick. -/
import Derived.Test.YtgjodjkmefdilaaTra
import Derived.Test.YtgjodjkmefdilaaRp
namespace Go.Proofs.Ytgjodjkmefdilaa
set_option linter.unusedSimpArgs false
set_option linter.unusedVariables false
open Go.RowKit

set_option maxRecDepth 100000 in
set_option maxHeartbeats 4000000 in
theorem rTick_no (R : RS) (vs vt : Value) (now : Nat) (w w0 : World) (X Y : List Blk) (O : Ow w w0 Y) (hM : RM w0 X R vs vt) (hR : RW 1000000 R) (hn : now ≤ 4611686018427387904) (hd : rDue R now = false) :
    Calls Try.prog 29 #[.agg (rcs R vs vt), .int .i64 now] w fun e w' => e = .returned (.tuple #[.agg (rcs R vs vt), .agg #[.int .i64 0, .slice none 0 0, .int .i64 0], .bool false]) ∧ Ow w' w0 Y := by
  obtain ⟨a1, c1, rfl⟩ := hM.1.slice
  obtain ⟨a2, c2, rfl⟩ := hM.2.slice
  have h1 := hR.said
  have h2 := hR.le
  have h3 := hR.out
  have h4 := hR.last
  have h5 := hR.again
  have HO := Lib.hid O
  clear hM O
  simp only [rcs]
  unfold rDue at hd
  simp only [Bool.or_eq_false_iff, Bool.and_eq_false_iff, decide_eq_false_iff_not] at hd
  obtain ⟨⟨k1, k2⟩, k3⟩ := hd
  have e1 : decide ((R.out : Int) < (R.said.length : Int)) = false := decide_eq_false (by omega)
  rw [k3]
  rcases k2 with (k2 | k2) | k2
  · have e2 : decide ((R.heard : Int) < (R.said.length : Int)) = false := decide_eq_false (by omega)
    go_enter Try.func29, Try.ntmps29
    go_wp2
    refine bodyPost_ret (v := .tuple #[.agg #[.int .i64 R.most, .int .i64 R.again, .slice a1 R.said.length c1, .int .i64 R.heard, .int .i64 R.out, .slice a2 R.took.length c2, .int .i64 R.gave, .int .i64 R.last, .bool R.went, .bool false], .agg #[.int .i64 0, .slice none 0 0, .int .i64 0], .bool false]) (by simp [results, Try.results29, go_sem]) rfl ⟨rfl, ((HO.out.alloc _).alloc _).alloc _⟩
  · by_cases hw : R.heard < R.said.length
    · have e2 : decide ((R.heard : Int) < (R.said.length : Int)) = true := decide_eq_true (by omega)
      rw [k2]
      go_enter Try.func29, Try.ntmps29
      go_wp2
      refine bodyPost_ret (v := .tuple #[.agg #[.int .i64 R.most, .int .i64 R.again, .slice a1 R.said.length c1, .int .i64 R.heard, .int .i64 R.out, .slice a2 R.took.length c2, .int .i64 R.gave, .int .i64 R.last, .bool false, .bool false], .agg #[.int .i64 0, .slice none 0 0, .int .i64 0], .bool false]) (by simp [results, Try.results29, go_sem]) rfl ⟨rfl, ((HO.out.alloc _).alloc _).alloc _⟩
    · have e2 : decide ((R.heard : Int) < (R.said.length : Int)) = false := decide_eq_false (by omega)
      rw [k2]
      go_enter Try.func29, Try.ntmps29
      go_wp2
      refine bodyPost_ret (v := .tuple #[.agg #[.int .i64 R.most, .int .i64 R.again, .slice a1 R.said.length c1, .int .i64 R.heard, .int .i64 R.out, .slice a2 R.took.length c2, .int .i64 R.gave, .int .i64 R.last, .bool false, .bool false], .agg #[.int .i64 0, .slice none 0 0, .int .i64 0], .bool false]) (by simp [results, Try.results29, go_sem]) rfl ⟨rfl, ((HO.out.alloc _).alloc _).alloc _⟩
  · by_cases hw : R.heard < R.said.length
    · have e2 : decide ((R.heard : Int) < (R.said.length : Int)) = true := decide_eq_true (by omega)
      have e4 : decide ((R.again : Int) ≤ (now : Int) - (R.last : Int)) = false := decide_eq_false (by omega)
      cases hwe : R.went with
      | true =>
        go_enter Try.func29, Try.ntmps29
        go_wp2
        refine bodyPost_ret (v := .tuple #[.agg #[.int .i64 R.most, .int .i64 R.again, .slice a1 R.said.length c1, .int .i64 R.heard, .int .i64 R.out, .slice a2 R.took.length c2, .int .i64 R.gave, .int .i64 R.last, .bool true, .bool false], .agg #[.int .i64 0, .slice none 0 0, .int .i64 0], .bool false]) (by simp [results, Try.results29, go_sem]) rfl ⟨rfl, ((HO.out.alloc _).alloc _).alloc _⟩
      | false =>
        go_enter Try.func29, Try.ntmps29
        go_wp2
        refine bodyPost_ret (v := .tuple #[.agg #[.int .i64 R.most, .int .i64 R.again, .slice a1 R.said.length c1, .int .i64 R.heard, .int .i64 R.out, .slice a2 R.took.length c2, .int .i64 R.gave, .int .i64 R.last, .bool false, .bool false], .agg #[.int .i64 0, .slice none 0 0, .int .i64 0], .bool false]) (by simp [results, Try.results29, go_sem]) rfl ⟨rfl, ((HO.out.alloc _).alloc _).alloc _⟩
    · have e2 : decide ((R.heard : Int) < (R.said.length : Int)) = false := decide_eq_false (by omega)
      cases hwe : R.went with
      | true =>
        go_enter Try.func29, Try.ntmps29
        go_wp2
        refine bodyPost_ret (v := .tuple #[.agg #[.int .i64 R.most, .int .i64 R.again, .slice a1 R.said.length c1, .int .i64 R.heard, .int .i64 R.out, .slice a2 R.took.length c2, .int .i64 R.gave, .int .i64 R.last, .bool true, .bool false], .agg #[.int .i64 0, .slice none 0 0, .int .i64 0], .bool false]) (by simp [results, Try.results29, go_sem]) rfl ⟨rfl, ((HO.out.alloc _).alloc _).alloc _⟩
      | false =>
        go_enter Try.func29, Try.ntmps29
        go_wp2
        refine bodyPost_ret (v := .tuple #[.agg #[.int .i64 R.most, .int .i64 R.again, .slice a1 R.said.length c1, .int .i64 R.heard, .int .i64 R.out, .slice a2 R.took.length c2, .int .i64 R.gave, .int .i64 R.last, .bool false, .bool false], .agg #[.int .i64 0, .slice none 0 0, .int .i64 0], .bool false]) (by simp [results, Try.results29, go_sem]) rfl ⟨rfl, ((HO.out.alloc _).alloc _).alloc _⟩

theorem add_plain' (b o j : Nat) : (⟨b, o, none⟩ : Addr).add j = ⟨b, o + j, none⟩ := by unfold Addr.add; split <;> simp_all
theorem Row.ty {e : TypeId} {sz : Nat} {v : Value} {n : Nat} {xs : List Value} {B : List Blk} (h : Row e sz v n xs B) : ∀ x ∈ B, x.ty = e := by
  cases h with
  | void => simp
  | one r n cap cur h1 h2 h3 => intro x hx; simp at hx; subst hx; rfl
theorem step_two {P : Program} {ops : Array Oper} {md : Region.Mode} {Q : Exit → Act → World → Prop} {a : Act} {w : World} {LF : Array Bool} {k l n : Nat} {o o' : Oper} (h1 : Region.ready md ops LF = [k, l]) (ho : ops[k]? = some o) (ho' : ops[l]? = some o') (hg : o.guard = none) (hg' : o'.guard = none)
    (h : ∀ K : Act → World → Prop, (∀ a w, wpAny P md ops Q n (LF.setIfInBounds k true) a w → K a w) → o.wp P a w K Q)
    (h' : ∀ K : Act → World → Prop, (∀ a w, wpAny P md ops Q n (LF.setIfInBounds l true) a w → K a w) → o'.wp P a w K Q) : wpAny P md ops Q (n + 1) LF a w := by
  refine ⟨fun h0 => (by rw [h1] at h0; cases h0), fun i hi => ?_⟩
  rw [h1] at hi
  simp at hi
  rcases hi with rfl | rfl
  · unfold wpOp
    simp only [ho]
    rw [if_pos (by simp [Region.wanted, hg])]
    exact .inl (h _ fun a w hq => hq)
  · unfold wpOp
    simp only [ho']
    rw [if_pos (by simp [Region.wanted, hg'])]
    exact .inl (h' _ fun a w hq => hq)
theorem wp_region_op {P : Program} {id : Nat} {Q : Exit → Act → World → Prop} {a : Act} {w : World} {ops : Array Oper} (S : World → Prop) (hm : P.follows .mixedOrders = true) (hS : S w.drew) (h : ∀ W, S W → wpAny P .any ops Q ops.size (Array.replicate ops.size false) a W) : (Code.region id ops true).wp P Q a w := wp_region_any hm (h _ hS)
theorem Ow.drew {w w0 : World} {X : List Blk} (h : Ow w w0 X) : Ow w.drew w0 X := ⟨h.mem.drew, h.new⟩
theorem HasBlk.mk' {w : World} {x : Blk} (h : w.heap[x.no]? = some (.cells x.cs x.ty (0, 0))) : HasBlk w x.no x.ty x.cs := h
theorem HasBlk.type_ne {w : World} {b c : Nat} {t s : TypeId} {cs ds : Array Value} (h : HasBlk w b t cs) (k : HasBlk w c s ds) (hts : t ≠ s) : b ≠ c := by
  rintro rfl
  unfold HasBlk at h k
  rw [h] at k
  simp at k
  exact hts k.2
set_option maxRecDepth 100000 in
set_option maxHeartbeats 8000000 in
theorem rTick_walk (R : RS) (a1 a2 : Option Addr) (c1 c2 : Nat) (now : Nat) (w : World) (us : List Value) (hul : us.length = R.said.length) (hone : ∀ u ∈ us, u.oneCell' = true) (hcap : R.said.length ≤ c1 ∧ (a1 = none → R.said.length = 0 ∧ c1 = 0)) (hus : us = [] ∨ ∃ r o, a1 = some ⟨r, o, none⟩ ∧ r < w.heap.size ∧ ∀ j u, us[j]? = some u → w.cell? ⟨r, o + j, none⟩ = some u) (hR : RW 1000000 R) (hn : now ≤ 4611686018427387904) (hd : rDue R now = true) :
    Calls Try.prog 29 #[.agg #[.int .i64 R.most, .int .i64 R.again, .slice a1 R.said.length c1, .int .i64 R.heard, .int .i64 R.out, .slice a2 R.took.length c2, .int .i64 R.gave, .int .i64 R.last, .bool R.went, .bool R.owes], .int .i64 now] w fun e w' => ∃ u B, e = .returned (.tuple #[.agg #[.int .i64 R.most, .int .i64 R.again, .slice a1 R.said.length c1, .int .i64 R.heard, .int .i64 R.said.length, .slice a2 R.took.length c2, .int .i64 R.gave, .int .i64 now, .bool true, .bool false], .agg #[.int .i64 R.heard, u, .int .i64 R.took.length], .bool true]) ∧ Ow w' w B ∧ Row 34 1 u (R.said.length - R.heard) (us.drop R.heard) B := by
  have h1 := hR.said
  have h2 := hR.le
  have h3 := hR.out
  have h4 := hR.last
  have h5 := hR.again
  have h6 := hR.took
  have hcap1 := hcap.1
  have hdl : (us.drop R.heard).length = R.said.length - R.heard := by rw [List.length_drop, hul]
  obtain ⟨A, hA⟩ : ∃ A, (if c1 = R.heard then a1 else Option.map (fun x => x.add R.heard) a1) = A := ⟨_, rfl⟩
  have hsrc : us.drop R.heard = [] ∨ ∃ r o, A = some ⟨r, o, none⟩ ∧ r < w.heap.size ∧ ∀ j u, (us.drop R.heard)[j]? = some u → w.cell? ⟨r, o + j, none⟩ = some u := by
    by_cases he : R.said.length = R.heard
    · left; exact List.eq_nil_of_length_eq_zero (by omega)
    · right
      rcases hus with hus | ⟨r, o, rfl, hr, hc⟩
      · rw [hus] at hul; simp at hul; omega
      · refine ⟨r, o + R.heard, ?_, hr, fun j u hj => ?_⟩
        · rw [← hA, if_neg (by omega)]
          simp only [Option.map_some, add_plain']
        · rw [List.getElem?_drop] at hj
          rw [Nat.add_assoc]
          exact hc _ _ hj
  have HAN : Hid (A = none → R.said.length - R.heard = 0) := fun h0 => by
    rcases hsrc with h | ⟨r, o, h, -⟩
    · rw [h] at hdl; simpa using hdl.symm
    · rw [h0] at h; cases h
  have HAC : Hid (∀ W, Below w.heap.size w W → ∀ ad, A = some ad → ∀ j u, (us.drop R.heard)[j]? = some u → W.cell? (ad.add j) = some u) := fun W O ad had j u hj => by
    rcases hsrc with h | ⟨r, o, h, hr, hc⟩
    · rw [h] at hj; simp at hj
    · rw [h] at had; cases had
      rw [add_plain', World.cell?_of_block (a := ⟨r, o + j, none⟩) (O.block r hr)]
      exact hc j u hj
  have HAO : Hid (∀ ad, A = some ad → us.drop R.heard ≠ [] → ad.block < w.heap.size) := fun ad had hne => by
    rcases hsrc with h | ⟨r, o, h, hr, hc⟩
    · exact absurd h hne
    · rw [h] at had; cases had; exact hr
  have HD1 : Hid (∀ u ∈ us.drop R.heard, u.oneCell' = true) := fun u hu => hone u (List.mem_of_mem_drop hu)
  clear hus hone hsrc hcap
  unfold rDue at hd
  by_cases k1 : R.out < R.said.length
  · have e1 : decide ((R.out : Int) < (R.said.length : Int)) = true := decide_eq_true (by omega)
    have e2 : decide ((R.heard : Int) < (R.said.length : Int)) = decide ((R.heard : Int) < (R.said.length : Int)) := rfl
    go_enter Try.func29, Try.ntmps29
    go_wp2_with fail
    refine wp_opq (fun W => Ow W w [⟨w.heap.size + 2, 68, #[.int .i64 0, .slice none 0 0, .int .i64 0]⟩, ⟨w.heap.size + 1, 27, #[.int .i64 0, .int .i64 0, .slice none 0 0, .int .i64 0, .int .i64 0, .slice none 0 0, .int .i64 0, .int .i64 0, .bool false, .bool false]⟩, ⟨w.heap.size, 27, #[.int .i64 R.most, .int .i64 R.again, .slice a1 R.said.length c1, .int .i64 R.heard, .int .i64 R.out, .slice a2 R.took.length c2, .int .i64 R.gave, .int .i64 R.last, .bool R.went, .bool R.owes]⟩]) ((((Ow.start w).key #[.int .i64 R.most, .int .i64 R.again, .slice a1 R.said.length c1, .int .i64 R.heard, .int .i64 R.out, .slice a2 R.took.length c2, .int .i64 R.gave, .int .i64 R.last, .bool R.went, .bool R.owes] 27 w.heap.size rfl).key #[.int .i64 0, .int .i64 0, .slice none 0 0, .int .i64 0, .int .i64 0, .slice none 0 0, .int .i64 0, .int .i64 0, .bool false, .bool false] 27 (w.heap.size + 1) (by simp)).key #[.int .i64 0, .slice none 0 0, .int .i64 0] 68 (w.heap.size + 2) (by simp)) ?_
    intro W1 O1
    have HO1 := Lib.hid O1
    have hb0 := O1.has (b := w.heap.size) (t := 27) (cs := #[.int .i64 R.most, .int .i64 R.again, .slice a1 R.said.length c1, .int .i64 R.heard, .int .i64 R.out, .slice a2 R.took.length c2, .int .i64 R.gave, .int .i64 R.last, .bool R.went, .bool R.owes]) (by simp)
    have k2 := hb0.cell 2
    have k3 := hb0.cell 3
    have k5 := hb0.cell 5
    have lt1 := hb0.lt
    have HAC1 : Hid (∀ ad, A = some ad → ∀ j u, (us.drop R.heard)[j]? = some u → W1.cell? (ad.add j) = some u) := fun ad had j u hj => HAC.out W1 O1.below ad had j u hj
    have HAO1 : Hid (∀ ad, A = some ad → us.drop R.heard ≠ [] → ad.block < W1.heap.size) := fun ad had hne => Nat.lt_of_lt_of_le (HAO.out ad had hne) O1.mem.size
    clear O1 hb0
    refine wp_region_rc 14 1 (by kernel_rfl) (by kernel_rfl) (by kernel_rfl) (by kernel_rfl) ?_
    simp only [List.take_succ_cons, List.take_zero]
    repeat (first
      | (refine B_skip ?_ ?_; (· rfl); (try simp only [Act.put, List.setIfInBounds_toArray, List.set_cons_zero, List.set_cons_succ]))
      | (refine B_move rfl ?_ ?_; (· rfl); (try simp only [Act.eval, Act.put, Array.getD_eq_getD_getElem?, List.getElem?_toArray, List.getElem?_cons_succ, List.getElem?_cons_zero, Option.getD_some, List.setIfInBounds_toArray, List.set_cons_zero, List.set_cons_succ]))
      | (refine B_plain ?_ ?_; (· rfl); intro K hK; go_big_quiet_op; with_reducible refine hK _ ?_; clear hK K)
      | (refine B_newsl0 elt_msg rfl rfl ?_ ?_; (· rfl))
      | (refine B_appendL (s := 46) rfl rfl elt_msg (by omega) rfl A (R.said.length - R.heard) (c1 - R.heard) (us.drop R.heard) (fun u => rfl) hdl HAN.out HAC1.out HAO1.out HD1.out (by omega) ?_ ?_; (· rfl))
      | (refine B_readR (s := 52) rfl rfl (fun u => .agg #[.int .i64 R.heard, u, .int .i64 R.took.length]) (fun v W => ∃ u, v = .agg #[.int .i64 R.heard, u, .int .i64 R.took.length] ∧ RowOf 34 W1.heap.size (us.drop R.heard) u W) (fun v w1 w2 hx hv => by obtain ⟨u, e, h⟩ := hv; exact ⟨u, e, stays_rowOf _ _ _ u w1 w2 hx h⟩) (fun u W hu => ⟨u, rfl, hu⟩) ?_ (fun u W hu => ?_) ?_; (· rfl); (· (obtain ⟨ax, cx, Bx, rfl, -, -⟩ := hu; kernel_rfl)))
      | (refine B_new (t := 68) (z := .agg #[.int .i64 0, .slice none 0 0, .int .i64 0]) rfl rfl (by kernel_rfl) ?_ ?_; (· rfl)))
    refine B_nil ?_ rfl ?_ ?_
    · kernel_rfl
    · rfl
    rintro _ ⟨⟨g4, d4⟩, rfl⟩
    simp only [fin, Act.put, List.setIfInBounds_toArray, List.set_cons_zero, List.set_cons_succ]
    rintro _ ⟨b, rfl, hb1, hb2⟩ _ ⟨u, rfl, hu⟩ u52 - u46 -
    obtain ⟨au, cu, Bu, rfl, Ru, hBu⟩ := hu
    have O4 := HO1.out.found (B := ⟨b, 68, #[.int .i64 0, .slice none 0 0, .int .i64 0]⟩ :: Bu) ⟨⟨g4, d4⟩, rfl⟩ (List.pairwise_cons.2 ⟨fun y hy => by
      refine HasBlk.type_ne (show HasBlk _ b 68 #[.int .i64 0, .slice none 0 0, .int .i64 0] from hb2) (hBu y hy).2 ?_
      rw [Ru.ty y hy]; decide, Ru.apart⟩) (fun y hy => by
      rcases List.mem_cons.1 hy with rfl | hy
      · exact ⟨hb1, hb2⟩
      · exact hBu y hy)
    rw [hdl]
    rw [hdl] at Ru
    refine last_one (k := 14) (by kernel_rfl) (by kernel_rfl) (by rfl) ?_ ?_
    · rfl
    intro K hK
    refine wp_store_blk 68 (.tmp 8) (.tmp 56) (by rfl) (B := []) O4.mem (by rfl) #[.int .i64 R.heard, .slice au (R.said.length - R.heard) cu, .int .i64 R.took.length] (by rfl) (by kernel_rfl) (by rfl) (by simp [Value.oneCell']) (fun W2 M2 => hK _ _ ?_)
    clear hK K
    have O5 : Ow W2 w (⟨b, 68, #[.int .i64 R.heard, .slice au (R.said.length - R.heard) cu, .int .i64 R.took.length]⟩ :: (Bu ++ [⟨w.heap.size + 2, 68, #[.int .i64 0, .slice none 0 0, .int .i64 0]⟩, ⟨w.heap.size + 1, 27, #[.int .i64 0, .int .i64 0, .slice none 0 0, .int .i64 0, .int .i64 0, .slice none 0 0, .int .i64 0, .int .i64 0, .bool false, .bool false]⟩, ⟨w.heap.size, 27, #[.int .i64 R.most, .int .i64 R.again, .slice a1 R.said.length c1, .int .i64 R.heard, .int .i64 R.out, .slice a2 R.took.length c2, .int .i64 R.gave, .int .i64 R.last, .bool R.went, .bool R.owes]⟩])) := ⟨M2, New.cons (O4.new ⟨b, 68, #[.int .i64 0, .slice none 0 0, .int .i64 0]⟩ (by simp)) fun x hx => O4.new x (List.mem_cons_of_mem _ hx)⟩
    have HO6 := Lib.hid (O5.perm (L' := ⟨w.heap.size, 27, #[.int .i64 R.most, .int .i64 R.again, .slice a1 R.said.length c1, .int .i64 R.heard, .int .i64 R.out, .slice a2 R.took.length c2, .int .i64 R.gave, .int .i64 R.last, .bool R.went, .bool R.owes]⟩ :: (⟨b, 68, #[.int .i64 R.heard, .slice au (R.said.length - R.heard) cu, .int .i64 R.took.length]⟩ :: (⟨w.heap.size + 1, 27, #[.int .i64 0, .int .i64 0, .slice none 0 0, .int .i64 0, .int .i64 0, .slice none 0 0, .int .i64 0, .int .i64 0, .bool false, .bool false]⟩ :: (⟨w.heap.size + 2, 68, #[.int .i64 0, .slice none 0 0, .int .i64 0]⟩ :: Bu)))) (perm_cnt fun x => by simp only [cnt_append, cnt_cons, cnt_nil] <;> omega))
    have HRu := Lib.hid Ru
    have hb0 := HO6.out.has (List.mem_cons_self ..)
    have g0_ := hb0.cell 0
    have g1_ := hb0.cell 1
    have g2_ := hb0.cell 2
    have g3_ := hb0.cell 3
    have g4_ := hb0.cell 4
    have g5_ := hb0.cell 5
    have g6_ := hb0.cell 6
    have g7_ := hb0.cell 7
    have g8_ := hb0.cell 8
    have g9_ := hb0.cell 9
    have f4 := hb0.frozen 4
    have f7 := hb0.frozen 7
    have f8 := hb0.frozen 8
    have f9 := hb0.frozen 9
    have lt2 := hb0.lt
    have hne : b ≠ w.heap.size := by omega
    have hne2 : w.heap.size ≠ b := by omega
    clear O4 O5 M2 hb0 hb1 hb2 hBu Ru k2 k3 k5 lt1
    go_wp2
    refine wp_opq (fun W => Ow W w (⟨w.heap.size, 27, #[.int .i64 R.most, .int .i64 R.again, .slice a1 R.said.length c1, .int .i64 R.heard, .int .i64 R.said.length, .slice a2 R.took.length c2, .int .i64 R.gave, .int .i64 now, .bool true, .bool false]⟩ :: (⟨b, 68, #[.int .i64 R.heard, .slice au (R.said.length - R.heard) cu, .int .i64 R.took.length]⟩ :: (⟨w.heap.size + 1, 27, #[.int .i64 0, .int .i64 0, .slice none 0 0, .int .i64 0, .int .i64 0, .slice none 0 0, .int .i64 0, .int .i64 0, .bool false, .bool false]⟩ :: (⟨w.heap.size + 2, 68, #[.int .i64 0, .slice none 0 0, .int .i64 0]⟩ :: Bu))))) (((((HO6.out.set 4 _).set 7 _).set 8 _).set 9 _).as (by simp)) ?_
    intro W3 O7
    have HO7 := Lib.hid O7
    have hb0 := O7.has (List.mem_cons_self ..)
    have hbb := O7.has (List.mem_cons_of_mem _ (List.mem_cons_self ..))
    have d0 := hb0.cell 0
    have d1 := hb0.cell 1
    have d2 := hb0.cell 2
    have d3 := hb0.cell 3
    have d4 := hb0.cell 4
    have d5 := hb0.cell 5
    have d6 := hb0.cell 6
    have d7 := hb0.cell 7
    have d8 := hb0.cell 8
    have d9 := hb0.cell 9
    have lt3 := hb0.lt
    have p0 := hbb.cell 0
    have p1 := hbb.cell 1
    have p2 := hbb.cell 2
    have ltb := hbb.lt
    clear O7 hb0 hbb
    refine wp_region_op (fun W => Ow W w (⟨w.heap.size, 27, #[.int .i64 R.most, .int .i64 R.again, .slice a1 R.said.length c1, .int .i64 R.heard, .int .i64 R.said.length, .slice a2 R.took.length c2, .int .i64 R.gave, .int .i64 now, .bool true, .bool false]⟩ :: (⟨b, 68, #[.int .i64 R.heard, .slice au (R.said.length - R.heard) cu, .int .i64 R.took.length]⟩ :: (⟨w.heap.size + 1, 27, #[.int .i64 0, .int .i64 0, .slice none 0 0, .int .i64 0, .int .i64 0, .slice none 0 0, .int .i64 0, .int .i64 0, .bool false, .bool false]⟩ :: (⟨w.heap.size + 2, 68, #[.int .i64 0, .slice none 0 0, .int .i64 0]⟩ :: Bu))))) (by kernel_rfl) HO7.out.drew ?_
    intro W8 O8
    have hb8 := O8.has (List.mem_cons_self ..)
    have hbb := O8.has (List.mem_cons_of_mem _ (List.mem_cons_self ..))
    have y0 := hb8.cell 0
    have y1 := hb8.cell 1
    have y2 := hb8.cell 2
    have y3 := hb8.cell 3
    have y4 := hb8.cell 4
    have y5 := hb8.cell 5
    have y6 := hb8.cell 6
    have y7 := hb8.cell 7
    have y8 := hb8.cell 8
    have y9 := hb8.cell 9
    have lt8 := hb8.lt
    have p0 := hbb.cell 0
    have p1 := hbb.cell 1
    have p2 := hbb.cell 2
    have ltb := hbb.lt
    have HO8 := Lib.hid (O8.perm (L' := ⟨w.heap.size + 1, 27, #[.int .i64 0, .int .i64 0, .slice none 0 0, .int .i64 0, .int .i64 0, .slice none 0 0, .int .i64 0, .int .i64 0, .bool false, .bool false]⟩ :: (⟨w.heap.size, 27, #[.int .i64 R.most, .int .i64 R.again, .slice a1 R.said.length c1, .int .i64 R.heard, .int .i64 R.said.length, .slice a2 R.took.length c2, .int .i64 R.gave, .int .i64 now, .bool true, .bool false]⟩ :: (⟨b, 68, #[.int .i64 R.heard, .slice au (R.said.length - R.heard) cu, .int .i64 R.took.length]⟩ :: (⟨w.heap.size + 2, 68, #[.int .i64 0, .slice none 0 0, .int .i64 0]⟩ :: Bu)))) (perm_cnt fun x => by simp only [cnt_append, cnt_cons, cnt_nil] <;> omega))
    clear O8 hb8 hbb
    refine step_two (n := 4) (k := 0) (l := 1) (by kernel_rfl) (by rfl) (by rfl) (by rfl) (by rfl) ?_ ?_
    · intro K hK
      go_simp
      refine hK _ _ ?_
      clear hK K
      refine step_two (n := 3) (k := 1) (l := 2) (by kernel_rfl) (by rfl) (by rfl) (by rfl) (by rfl) ?_ ?_
      · intro K hK
        go_simp
        refine hK _ _ ?_
        clear hK K
        refine step_one (n := 2) (k := 2) (by kernel_rfl) (by rfl) (by rfl) ?_
        intro K hK
        refine wp_store_blk 27 (.tmp 4) (.tmp 65) (by rfl) (B := []) HO8.out.mem (by rfl) #[.int .i64 R.most, .int .i64 R.again, .slice a1 R.said.length c1, .int .i64 R.heard, .int .i64 R.said.length, .slice a2 R.took.length c2, .int .i64 R.gave, .int .i64 now, .bool true, .bool false] (by rfl) (by kernel_rfl) (by rfl) (by simp [Value.oneCell']) (fun W4 M4 => hK _ _ ?_)
        clear hK K
        have M4' := Lib.hid M4
        refine step_one (n := 1) (k := 3) (by kernel_rfl) (by rfl) (by rfl) ?_
        intro K hK
        refine wp_store_blk 68 (.tmp 5) (.tmp 66) (by rfl) (B := []) (M4'.out.perm (L' := ⟨w.heap.size + 2, 68, #[.int .i64 0, .slice none 0 0, .int .i64 0]⟩ :: (⟨w.heap.size + 1, 27, #[.int .i64 R.most, .int .i64 R.again, .slice a1 R.said.length c1, .int .i64 R.heard, .int .i64 R.said.length, .slice a2 R.took.length c2, .int .i64 R.gave, .int .i64 now, .bool true, .bool false]⟩ :: (⟨w.heap.size, 27, #[.int .i64 R.most, .int .i64 R.again, .slice a1 R.said.length c1, .int .i64 R.heard, .int .i64 R.said.length, .slice a2 R.took.length c2, .int .i64 R.gave, .int .i64 now, .bool true, .bool false]⟩ :: (⟨b, 68, #[.int .i64 R.heard, .slice au (R.said.length - R.heard) cu, .int .i64 R.took.length]⟩ :: Bu)))) (perm_cnt fun x => by simp only [cnt_append, cnt_cons, cnt_nil] <;> omega)) (by rfl) #[.int .i64 R.heard, .slice au (R.said.length - R.heard) cu, .int .i64 R.took.length] (by rfl) (by kernel_rfl) (by rfl) (by simp [Value.oneCell']) (fun W5 M5 => hK _ _ ?_)
        clear hK K
        have hq2 := HasBlk.mk' (M5.has _ (List.mem_cons_self ..))
        have hq1 := HasBlk.mk' (M5.has _ (List.mem_cons_of_mem _ (List.mem_cons_self ..)))
        have HM5 := Lib.hid M5
        have e0 := hq1.cell 0
        have e1 := hq1.cell 1
        have e2 := hq1.cell 2
        have e3 := hq1.cell 3
        have e4 := hq1.cell 4
        have e5 := hq1.cell 5
        have e6 := hq1.cell 6
        have e7 := hq1.cell 7
        have e8 := hq1.cell 8
        have e9 := hq1.cell 9
        have x0 := hq2.cell 0
        have x1 := hq2.cell 1
        have x2 := hq2.cell 2
        clear M4 M5 hq1 hq2
        refine last_one (k := 4) (by kernel_rfl) (by kernel_rfl) (by rfl) ?_ ?_
        · rfl
        intro K hK
        go_simp
        refine hK _ _ ?_
        clear hK K
        go_wp2
        refine bodyPost_ret (v := .tuple #[.agg #[.int .i64 R.most, .int .i64 R.again, .slice a1 R.said.length c1, .int .i64 R.heard, .int .i64 R.said.length, .slice a2 R.took.length c2, .int .i64 R.gave, .int .i64 now, .bool true, .bool false], .agg #[.int .i64 R.heard, .slice au (R.said.length - R.heard) cu, .int .i64 R.took.length], .bool true]) (by simp [results, Try.results29, go_sem, e0, e1, e2, e3, e4, e5, e6, e7, e8, e9, x0, x1, x2]) rfl ?_
        have hbn := HO7.out.new ⟨b, 68, #[.int .i64 R.heard, .slice au (R.said.length - R.heard) cu, .int .i64 R.took.length]⟩ (by simp)
        have M6 := HM5.out.drop (show w.heap.size ≤ w.heap.size + 2 by omega)
        have M7 := M6.drop (show w.heap.size ≤ w.heap.size + 1 by omega)
        have M8 := M7.drop (Nat.le_refl w.heap.size)
        have M9 := M8.drop hbn
        have hON : Ow W5 w Bu := ⟨M9, fun x hx => HO7.out.new x (by simp [hx])⟩
        have hRU := HRu.out
        first | exact ⟨_, rfl, Bu, hON, hRU⟩ | exact ⟨_, Bu, rfl, hON, hRU⟩
      · intro K hK
        refine wp_store_blk 27 (.tmp 4) (.tmp 65) (by rfl) (B := []) HO8.out.mem (by rfl) #[.int .i64 R.most, .int .i64 R.again, .slice a1 R.said.length c1, .int .i64 R.heard, .int .i64 R.said.length, .slice a2 R.took.length c2, .int .i64 R.gave, .int .i64 now, .bool true, .bool false] (by rfl) (by kernel_rfl) (by rfl) (by simp [Value.oneCell']) (fun W4 M4 => hK _ _ ?_)
        clear hK K
        have hb4 := HasBlk.mk' (M4.has ⟨b, 68, #[.int .i64 R.heard, .slice au (R.said.length - R.heard) cu, .int .i64 R.took.length]⟩ (by simp))
        have p0 := hb4.cell 0
        have p1 := hb4.cell 1
        have p2 := hb4.cell 2
        have ltb := hb4.lt
        have M4' := Lib.hid M4
        refine step_one (n := 2) (k := 1) (by kernel_rfl) (by rfl) (by rfl) ?_
        intro K hK
        go_simp
        refine hK _ _ ?_
        clear hK K
        refine step_one (n := 1) (k := 3) (by kernel_rfl) (by rfl) (by rfl) ?_
        intro K hK
        refine wp_store_blk 68 (.tmp 5) (.tmp 66) (by rfl) (B := []) (M4'.out.perm (L' := ⟨w.heap.size + 2, 68, #[.int .i64 0, .slice none 0 0, .int .i64 0]⟩ :: (⟨w.heap.size + 1, 27, #[.int .i64 R.most, .int .i64 R.again, .slice a1 R.said.length c1, .int .i64 R.heard, .int .i64 R.said.length, .slice a2 R.took.length c2, .int .i64 R.gave, .int .i64 now, .bool true, .bool false]⟩ :: (⟨w.heap.size, 27, #[.int .i64 R.most, .int .i64 R.again, .slice a1 R.said.length c1, .int .i64 R.heard, .int .i64 R.said.length, .slice a2 R.took.length c2, .int .i64 R.gave, .int .i64 now, .bool true, .bool false]⟩ :: (⟨b, 68, #[.int .i64 R.heard, .slice au (R.said.length - R.heard) cu, .int .i64 R.took.length]⟩ :: Bu)))) (perm_cnt fun x => by simp only [cnt_append, cnt_cons, cnt_nil] <;> omega)) (by rfl) #[.int .i64 R.heard, .slice au (R.said.length - R.heard) cu, .int .i64 R.took.length] (by rfl) (by kernel_rfl) (by rfl) (by simp [Value.oneCell']) (fun W5 M5 => hK _ _ ?_)
        clear hK K
        have hq2 := HasBlk.mk' (M5.has _ (List.mem_cons_self ..))
        have hq1 := HasBlk.mk' (M5.has _ (List.mem_cons_of_mem _ (List.mem_cons_self ..)))
        have HM5 := Lib.hid M5
        have e0 := hq1.cell 0
        have e1 := hq1.cell 1
        have e2 := hq1.cell 2
        have e3 := hq1.cell 3
        have e4 := hq1.cell 4
        have e5 := hq1.cell 5
        have e6 := hq1.cell 6
        have e7 := hq1.cell 7
        have e8 := hq1.cell 8
        have e9 := hq1.cell 9
        have x0 := hq2.cell 0
        have x1 := hq2.cell 1
        have x2 := hq2.cell 2
        clear M4 M5 hq1 hq2
        refine last_one (k := 4) (by kernel_rfl) (by kernel_rfl) (by rfl) ?_ ?_
        · rfl
        intro K hK
        go_simp
        refine hK _ _ ?_
        clear hK K
        go_wp2
        refine bodyPost_ret (v := .tuple #[.agg #[.int .i64 R.most, .int .i64 R.again, .slice a1 R.said.length c1, .int .i64 R.heard, .int .i64 R.said.length, .slice a2 R.took.length c2, .int .i64 R.gave, .int .i64 now, .bool true, .bool false], .agg #[.int .i64 R.heard, .slice au (R.said.length - R.heard) cu, .int .i64 R.took.length], .bool true]) (by simp [results, Try.results29, go_sem, e0, e1, e2, e3, e4, e5, e6, e7, e8, e9, x0, x1, x2]) rfl ?_
        have hbn := HO7.out.new ⟨b, 68, #[.int .i64 R.heard, .slice au (R.said.length - R.heard) cu, .int .i64 R.took.length]⟩ (by simp)
        have M6 := HM5.out.drop (show w.heap.size ≤ w.heap.size + 2 by omega)
        have M7 := M6.drop (show w.heap.size ≤ w.heap.size + 1 by omega)
        have M8 := M7.drop (Nat.le_refl w.heap.size)
        have M9 := M8.drop hbn
        have hON : Ow W5 w Bu := ⟨M9, fun x hx => HO7.out.new x (by simp [hx])⟩
        have hRU := HRu.out
        first | exact ⟨_, rfl, Bu, hON, hRU⟩ | exact ⟨_, Bu, rfl, hON, hRU⟩
    · intro K hK
      go_simp
      refine hK _ _ ?_
      clear hK K
      refine step_one (n := 3) (k := 0) (by kernel_rfl) (by rfl) (by rfl) ?_
      intro K hK
      go_simp
      refine hK _ _ ?_
      clear hK K
      refine step_one (n := 2) (k := 2) (by kernel_rfl) (by rfl) (by rfl) ?_
      intro K hK
      refine wp_store_blk 27 (.tmp 4) (.tmp 65) (by rfl) (B := []) HO8.out.mem (by rfl) #[.int .i64 R.most, .int .i64 R.again, .slice a1 R.said.length c1, .int .i64 R.heard, .int .i64 R.said.length, .slice a2 R.took.length c2, .int .i64 R.gave, .int .i64 now, .bool true, .bool false] (by rfl) (by kernel_rfl) (by rfl) (by simp [Value.oneCell']) (fun W4 M4 => hK _ _ ?_)
      clear hK K
      have M4' := Lib.hid M4
      refine step_one (n := 1) (k := 3) (by kernel_rfl) (by rfl) (by rfl) ?_
      intro K hK
      refine wp_store_blk 68 (.tmp 5) (.tmp 66) (by rfl) (B := []) (M4'.out.perm (L' := ⟨w.heap.size + 2, 68, #[.int .i64 0, .slice none 0 0, .int .i64 0]⟩ :: (⟨w.heap.size + 1, 27, #[.int .i64 R.most, .int .i64 R.again, .slice a1 R.said.length c1, .int .i64 R.heard, .int .i64 R.said.length, .slice a2 R.took.length c2, .int .i64 R.gave, .int .i64 now, .bool true, .bool false]⟩ :: (⟨w.heap.size, 27, #[.int .i64 R.most, .int .i64 R.again, .slice a1 R.said.length c1, .int .i64 R.heard, .int .i64 R.said.length, .slice a2 R.took.length c2, .int .i64 R.gave, .int .i64 now, .bool true, .bool false]⟩ :: (⟨b, 68, #[.int .i64 R.heard, .slice au (R.said.length - R.heard) cu, .int .i64 R.took.length]⟩ :: Bu)))) (perm_cnt fun x => by simp only [cnt_append, cnt_cons, cnt_nil] <;> omega)) (by rfl) #[.int .i64 R.heard, .slice au (R.said.length - R.heard) cu, .int .i64 R.took.length] (by rfl) (by kernel_rfl) (by rfl) (by simp [Value.oneCell']) (fun W5 M5 => hK _ _ ?_)
      clear hK K
      have hq2 := HasBlk.mk' (M5.has _ (List.mem_cons_self ..))
      have hq1 := HasBlk.mk' (M5.has _ (List.mem_cons_of_mem _ (List.mem_cons_self ..)))
      have HM5 := Lib.hid M5
      have e0 := hq1.cell 0
      have e1 := hq1.cell 1
      have e2 := hq1.cell 2
      have e3 := hq1.cell 3
      have e4 := hq1.cell 4
      have e5 := hq1.cell 5
      have e6 := hq1.cell 6
      have e7 := hq1.cell 7
      have e8 := hq1.cell 8
      have e9 := hq1.cell 9
      have x0 := hq2.cell 0
      have x1 := hq2.cell 1
      have x2 := hq2.cell 2
      clear M4 M5 hq1 hq2
      refine last_one (k := 4) (by kernel_rfl) (by kernel_rfl) (by rfl) ?_ ?_
      · rfl
      intro K hK
      go_simp
      refine hK _ _ ?_
      clear hK K
      go_wp2
      refine bodyPost_ret (v := .tuple #[.agg #[.int .i64 R.most, .int .i64 R.again, .slice a1 R.said.length c1, .int .i64 R.heard, .int .i64 R.said.length, .slice a2 R.took.length c2, .int .i64 R.gave, .int .i64 now, .bool true, .bool false], .agg #[.int .i64 R.heard, .slice au (R.said.length - R.heard) cu, .int .i64 R.took.length], .bool true]) (by simp [results, Try.results29, go_sem, e0, e1, e2, e3, e4, e5, e6, e7, e8, e9, x0, x1, x2]) rfl ?_
      have hbn := HO7.out.new ⟨b, 68, #[.int .i64 R.heard, .slice au (R.said.length - R.heard) cu, .int .i64 R.took.length]⟩ (by simp)
      have M6 := HM5.out.drop (show w.heap.size ≤ w.heap.size + 2 by omega)
      have M7 := M6.drop (show w.heap.size ≤ w.heap.size + 1 by omega)
      have M8 := M7.drop (Nat.le_refl w.heap.size)
      have M9 := M8.drop hbn
      have hON : Ow W5 w Bu := ⟨M9, fun x hx => HO7.out.new x (by simp [hx])⟩
      have hRU := HRu.out
      first | exact ⟨_, rfl, Bu, hON, hRU⟩ | exact ⟨_, Bu, rfl, hON, hRU⟩
  · have e1 : decide ((R.out : Int) < (R.said.length : Int)) = false := decide_eq_false (by omega)
    by_cases k2 : R.heard < R.said.length
    · have e2 : decide ((R.heard : Int) < (R.said.length : Int)) = true := decide_eq_true (by omega)
      have hA2 : Option.map (fun x => x.add R.heard) a1 = A := by rw [← hA, if_neg (by omega)]
      cases hwe : R.went with
      | true =>
        by_cases k3 : R.last + R.again ≤ now
        · have e4 : decide ((R.again : Int) ≤ (now : Int) - (R.last : Int)) = true := decide_eq_true (by omega)
          clear hd hwe
          go_enter Try.func29, Try.ntmps29
          go_wp2_with fail
          refine wp_opq (fun W => Ow W w [⟨w.heap.size + 2, 68, #[.int .i64 0, .slice none 0 0, .int .i64 0]⟩, ⟨w.heap.size + 1, 27, #[.int .i64 0, .int .i64 0, .slice none 0 0, .int .i64 0, .int .i64 0, .slice none 0 0, .int .i64 0, .int .i64 0, .bool false, .bool false]⟩, ⟨w.heap.size, 27, #[.int .i64 R.most, .int .i64 R.again, .slice a1 R.said.length c1, .int .i64 R.heard, .int .i64 R.out, .slice a2 R.took.length c2, .int .i64 R.gave, .int .i64 R.last, .bool true, .bool R.owes]⟩]) ((((Ow.start w).key #[.int .i64 R.most, .int .i64 R.again, .slice a1 R.said.length c1, .int .i64 R.heard, .int .i64 R.out, .slice a2 R.took.length c2, .int .i64 R.gave, .int .i64 R.last, .bool true, .bool R.owes] 27 w.heap.size rfl).key #[.int .i64 0, .int .i64 0, .slice none 0 0, .int .i64 0, .int .i64 0, .slice none 0 0, .int .i64 0, .int .i64 0, .bool false, .bool false] 27 (w.heap.size + 1) (by simp)).key #[.int .i64 0, .slice none 0 0, .int .i64 0] 68 (w.heap.size + 2) (by simp)) ?_
          intro W1 O1
          have HO1 := Lib.hid O1
          have hb0 := O1.has (b := w.heap.size) (t := 27) (cs := #[.int .i64 R.most, .int .i64 R.again, .slice a1 R.said.length c1, .int .i64 R.heard, .int .i64 R.out, .slice a2 R.took.length c2, .int .i64 R.gave, .int .i64 R.last, .bool true, .bool R.owes]) (by simp)
          have k2 := hb0.cell 2
          have k3 := hb0.cell 3
          have k5 := hb0.cell 5
          have lt1 := hb0.lt
          have HAC1 : Hid (∀ ad, A = some ad → ∀ j u, (us.drop R.heard)[j]? = some u → W1.cell? (ad.add j) = some u) := fun ad had j u hj => HAC.out W1 O1.below ad had j u hj
          have HAO1 : Hid (∀ ad, A = some ad → us.drop R.heard ≠ [] → ad.block < W1.heap.size) := fun ad had hne => Nat.lt_of_lt_of_le (HAO.out ad had hne) O1.mem.size
          clear O1 hb0
          refine wp_region_rc 14 1 (by kernel_rfl) (by kernel_rfl) (by kernel_rfl) (by kernel_rfl) ?_
          simp only [List.take_succ_cons, List.take_zero]
          repeat (first
            | (refine B_skip ?_ ?_; (· rfl); (try simp only [Act.put, List.setIfInBounds_toArray, List.set_cons_zero, List.set_cons_succ]))
            | (refine B_move rfl ?_ ?_; (· rfl); (try simp only [Act.eval, Act.put, Array.getD_eq_getD_getElem?, List.getElem?_toArray, List.getElem?_cons_succ, List.getElem?_cons_zero, Option.getD_some, List.setIfInBounds_toArray, List.set_cons_zero, List.set_cons_succ]))
            | (refine B_plain ?_ ?_; (· rfl); intro K hK; go_big_quiet_op; with_reducible refine hK _ ?_; clear hK K)
            | (refine B_newsl0 elt_msg rfl rfl ?_ ?_; (· rfl))
            | (refine B_appendL (s := 46) rfl rfl elt_msg (by omega) rfl A (R.said.length - R.heard) (c1 - R.heard) (us.drop R.heard) (fun u => rfl) hdl HAN.out HAC1.out HAO1.out HD1.out (by omega) ?_ ?_; (· rfl))
            | (refine B_readR (s := 52) rfl rfl (fun u => .agg #[.int .i64 R.heard, u, .int .i64 R.took.length]) (fun v W => ∃ u, v = .agg #[.int .i64 R.heard, u, .int .i64 R.took.length] ∧ RowOf 34 W1.heap.size (us.drop R.heard) u W) (fun v w1 w2 hx hv => by obtain ⟨u, e, h⟩ := hv; exact ⟨u, e, stays_rowOf _ _ _ u w1 w2 hx h⟩) (fun u W hu => ⟨u, rfl, hu⟩) ?_ (fun u W hu => ?_) ?_; (· rfl); (· (obtain ⟨ax, cx, Bx, rfl, -, -⟩ := hu; kernel_rfl)))
            | (refine B_new (t := 68) (z := .agg #[.int .i64 0, .slice none 0 0, .int .i64 0]) rfl rfl (by kernel_rfl) ?_ ?_; (· rfl)))
          refine B_nil ?_ rfl ?_ ?_
          · kernel_rfl
          · rfl
          rintro _ ⟨⟨g4, d4⟩, rfl⟩
          simp only [fin, Act.put, List.setIfInBounds_toArray, List.set_cons_zero, List.set_cons_succ]
          rintro _ ⟨b, rfl, hb1, hb2⟩ _ ⟨u, rfl, hu⟩ u52 - u46 -
          obtain ⟨au, cu, Bu, rfl, Ru, hBu⟩ := hu
          have O4 := HO1.out.found (B := ⟨b, 68, #[.int .i64 0, .slice none 0 0, .int .i64 0]⟩ :: Bu) ⟨⟨g4, d4⟩, rfl⟩ (List.pairwise_cons.2 ⟨fun y hy => by
            refine HasBlk.type_ne (show HasBlk _ b 68 #[.int .i64 0, .slice none 0 0, .int .i64 0] from hb2) (hBu y hy).2 ?_
            rw [Ru.ty y hy]; decide, Ru.apart⟩) (fun y hy => by
            rcases List.mem_cons.1 hy with rfl | hy
            · exact ⟨hb1, hb2⟩
            · exact hBu y hy)
          rw [hdl]
          rw [hdl] at Ru
          refine last_one (k := 14) (by kernel_rfl) (by kernel_rfl) (by rfl) ?_ ?_
          · rfl
          intro K hK
          refine wp_store_blk 68 (.tmp 8) (.tmp 56) (by rfl) (B := []) O4.mem (by rfl) #[.int .i64 R.heard, .slice au (R.said.length - R.heard) cu, .int .i64 R.took.length] (by rfl) (by kernel_rfl) (by rfl) (by simp [Value.oneCell']) (fun W2 M2 => hK _ _ ?_)
          clear hK K
          have O5 : Ow W2 w (⟨b, 68, #[.int .i64 R.heard, .slice au (R.said.length - R.heard) cu, .int .i64 R.took.length]⟩ :: (Bu ++ [⟨w.heap.size + 2, 68, #[.int .i64 0, .slice none 0 0, .int .i64 0]⟩, ⟨w.heap.size + 1, 27, #[.int .i64 0, .int .i64 0, .slice none 0 0, .int .i64 0, .int .i64 0, .slice none 0 0, .int .i64 0, .int .i64 0, .bool false, .bool false]⟩, ⟨w.heap.size, 27, #[.int .i64 R.most, .int .i64 R.again, .slice a1 R.said.length c1, .int .i64 R.heard, .int .i64 R.out, .slice a2 R.took.length c2, .int .i64 R.gave, .int .i64 R.last, .bool true, .bool R.owes]⟩])) := ⟨M2, New.cons (O4.new ⟨b, 68, #[.int .i64 0, .slice none 0 0, .int .i64 0]⟩ (by simp)) fun x hx => O4.new x (List.mem_cons_of_mem _ hx)⟩
          have HO6 := Lib.hid (O5.perm (L' := ⟨w.heap.size, 27, #[.int .i64 R.most, .int .i64 R.again, .slice a1 R.said.length c1, .int .i64 R.heard, .int .i64 R.out, .slice a2 R.took.length c2, .int .i64 R.gave, .int .i64 R.last, .bool true, .bool R.owes]⟩ :: (⟨b, 68, #[.int .i64 R.heard, .slice au (R.said.length - R.heard) cu, .int .i64 R.took.length]⟩ :: (⟨w.heap.size + 1, 27, #[.int .i64 0, .int .i64 0, .slice none 0 0, .int .i64 0, .int .i64 0, .slice none 0 0, .int .i64 0, .int .i64 0, .bool false, .bool false]⟩ :: (⟨w.heap.size + 2, 68, #[.int .i64 0, .slice none 0 0, .int .i64 0]⟩ :: Bu)))) (perm_cnt fun x => by simp only [cnt_append, cnt_cons, cnt_nil] <;> omega))
          have HRu := Lib.hid Ru
          have hb0 := HO6.out.has (List.mem_cons_self ..)
          have g0_ := hb0.cell 0
          have g1_ := hb0.cell 1
          have g2_ := hb0.cell 2
          have g3_ := hb0.cell 3
          have g4_ := hb0.cell 4
          have g5_ := hb0.cell 5
          have g6_ := hb0.cell 6
          have g7_ := hb0.cell 7
          have g8_ := hb0.cell 8
          have g9_ := hb0.cell 9
          have f4 := hb0.frozen 4
          have f7 := hb0.frozen 7
          have f8 := hb0.frozen 8
          have f9 := hb0.frozen 9
          have lt2 := hb0.lt
          have hne : b ≠ w.heap.size := by omega
          have hne2 : w.heap.size ≠ b := by omega
          clear O4 O5 M2 hb0 hb1 hb2 hBu Ru k2 k3 k5 lt1
          go_wp2
          refine wp_opq (fun W => Ow W w (⟨w.heap.size, 27, #[.int .i64 R.most, .int .i64 R.again, .slice a1 R.said.length c1, .int .i64 R.heard, .int .i64 R.said.length, .slice a2 R.took.length c2, .int .i64 R.gave, .int .i64 now, .bool true, .bool false]⟩ :: (⟨b, 68, #[.int .i64 R.heard, .slice au (R.said.length - R.heard) cu, .int .i64 R.took.length]⟩ :: (⟨w.heap.size + 1, 27, #[.int .i64 0, .int .i64 0, .slice none 0 0, .int .i64 0, .int .i64 0, .slice none 0 0, .int .i64 0, .int .i64 0, .bool false, .bool false]⟩ :: (⟨w.heap.size + 2, 68, #[.int .i64 0, .slice none 0 0, .int .i64 0]⟩ :: Bu))))) (((((HO6.out.set 4 _).set 7 _).set 8 _).set 9 _).as (by simp)) ?_
          intro W3 O7
          have HO7 := Lib.hid O7
          have hb0 := O7.has (List.mem_cons_self ..)
          have hbb := O7.has (List.mem_cons_of_mem _ (List.mem_cons_self ..))
          have d0 := hb0.cell 0
          have d1 := hb0.cell 1
          have d2 := hb0.cell 2
          have d3 := hb0.cell 3
          have d4 := hb0.cell 4
          have d5 := hb0.cell 5
          have d6 := hb0.cell 6
          have d7 := hb0.cell 7
          have d8 := hb0.cell 8
          have d9 := hb0.cell 9
          have lt3 := hb0.lt
          have p0 := hbb.cell 0
          have p1 := hbb.cell 1
          have p2 := hbb.cell 2
          have ltb := hbb.lt
          clear O7 hb0 hbb
          refine wp_region_op (fun W => Ow W w (⟨w.heap.size, 27, #[.int .i64 R.most, .int .i64 R.again, .slice a1 R.said.length c1, .int .i64 R.heard, .int .i64 R.said.length, .slice a2 R.took.length c2, .int .i64 R.gave, .int .i64 now, .bool true, .bool false]⟩ :: (⟨b, 68, #[.int .i64 R.heard, .slice au (R.said.length - R.heard) cu, .int .i64 R.took.length]⟩ :: (⟨w.heap.size + 1, 27, #[.int .i64 0, .int .i64 0, .slice none 0 0, .int .i64 0, .int .i64 0, .slice none 0 0, .int .i64 0, .int .i64 0, .bool false, .bool false]⟩ :: (⟨w.heap.size + 2, 68, #[.int .i64 0, .slice none 0 0, .int .i64 0]⟩ :: Bu))))) (by kernel_rfl) HO7.out.drew ?_
          intro W8 O8
          have hb8 := O8.has (List.mem_cons_self ..)
          have hbb := O8.has (List.mem_cons_of_mem _ (List.mem_cons_self ..))
          have y0 := hb8.cell 0
          have y1 := hb8.cell 1
          have y2 := hb8.cell 2
          have y3 := hb8.cell 3
          have y4 := hb8.cell 4
          have y5 := hb8.cell 5
          have y6 := hb8.cell 6
          have y7 := hb8.cell 7
          have y8 := hb8.cell 8
          have y9 := hb8.cell 9
          have lt8 := hb8.lt
          have p0 := hbb.cell 0
          have p1 := hbb.cell 1
          have p2 := hbb.cell 2
          have ltb := hbb.lt
          have HO8 := Lib.hid (O8.perm (L' := ⟨w.heap.size + 1, 27, #[.int .i64 0, .int .i64 0, .slice none 0 0, .int .i64 0, .int .i64 0, .slice none 0 0, .int .i64 0, .int .i64 0, .bool false, .bool false]⟩ :: (⟨w.heap.size, 27, #[.int .i64 R.most, .int .i64 R.again, .slice a1 R.said.length c1, .int .i64 R.heard, .int .i64 R.said.length, .slice a2 R.took.length c2, .int .i64 R.gave, .int .i64 now, .bool true, .bool false]⟩ :: (⟨b, 68, #[.int .i64 R.heard, .slice au (R.said.length - R.heard) cu, .int .i64 R.took.length]⟩ :: (⟨w.heap.size + 2, 68, #[.int .i64 0, .slice none 0 0, .int .i64 0]⟩ :: Bu)))) (perm_cnt fun x => by simp only [cnt_append, cnt_cons, cnt_nil] <;> omega))
          clear O8 hb8 hbb
          refine step_two (n := 4) (k := 0) (l := 1) (by kernel_rfl) (by rfl) (by rfl) (by rfl) (by rfl) ?_ ?_
          · intro K hK
            go_simp
            refine hK _ _ ?_
            clear hK K
            refine step_two (n := 3) (k := 1) (l := 2) (by kernel_rfl) (by rfl) (by rfl) (by rfl) (by rfl) ?_ ?_
            · intro K hK
              go_simp
              refine hK _ _ ?_
              clear hK K
              refine step_one (n := 2) (k := 2) (by kernel_rfl) (by rfl) (by rfl) ?_
              intro K hK
              refine wp_store_blk 27 (.tmp 4) (.tmp 65) (by rfl) (B := []) HO8.out.mem (by rfl) #[.int .i64 R.most, .int .i64 R.again, .slice a1 R.said.length c1, .int .i64 R.heard, .int .i64 R.said.length, .slice a2 R.took.length c2, .int .i64 R.gave, .int .i64 now, .bool true, .bool false] (by rfl) (by kernel_rfl) (by rfl) (by simp [Value.oneCell']) (fun W4 M4 => hK _ _ ?_)
              clear hK K
              have M4' := Lib.hid M4
              refine step_one (n := 1) (k := 3) (by kernel_rfl) (by rfl) (by rfl) ?_
              intro K hK
              refine wp_store_blk 68 (.tmp 5) (.tmp 66) (by rfl) (B := []) (M4'.out.perm (L' := ⟨w.heap.size + 2, 68, #[.int .i64 0, .slice none 0 0, .int .i64 0]⟩ :: (⟨w.heap.size + 1, 27, #[.int .i64 R.most, .int .i64 R.again, .slice a1 R.said.length c1, .int .i64 R.heard, .int .i64 R.said.length, .slice a2 R.took.length c2, .int .i64 R.gave, .int .i64 now, .bool true, .bool false]⟩ :: (⟨w.heap.size, 27, #[.int .i64 R.most, .int .i64 R.again, .slice a1 R.said.length c1, .int .i64 R.heard, .int .i64 R.said.length, .slice a2 R.took.length c2, .int .i64 R.gave, .int .i64 now, .bool true, .bool false]⟩ :: (⟨b, 68, #[.int .i64 R.heard, .slice au (R.said.length - R.heard) cu, .int .i64 R.took.length]⟩ :: Bu)))) (perm_cnt fun x => by simp only [cnt_append, cnt_cons, cnt_nil] <;> omega)) (by rfl) #[.int .i64 R.heard, .slice au (R.said.length - R.heard) cu, .int .i64 R.took.length] (by rfl) (by kernel_rfl) (by rfl) (by simp [Value.oneCell']) (fun W5 M5 => hK _ _ ?_)
              clear hK K
              have hq2 := HasBlk.mk' (M5.has _ (List.mem_cons_self ..))
              have hq1 := HasBlk.mk' (M5.has _ (List.mem_cons_of_mem _ (List.mem_cons_self ..)))
              have HM5 := Lib.hid M5
              have e0 := hq1.cell 0
              have e1 := hq1.cell 1
              have e2 := hq1.cell 2
              have e3 := hq1.cell 3
              have e4 := hq1.cell 4
              have e5 := hq1.cell 5
              have e6 := hq1.cell 6
              have e7 := hq1.cell 7
              have e8 := hq1.cell 8
              have e9 := hq1.cell 9
              have x0 := hq2.cell 0
              have x1 := hq2.cell 1
              have x2 := hq2.cell 2
              clear M4 M5 hq1 hq2
              refine last_one (k := 4) (by kernel_rfl) (by kernel_rfl) (by rfl) ?_ ?_
              · rfl
              intro K hK
              go_simp
              refine hK _ _ ?_
              clear hK K
              go_wp2
              refine bodyPost_ret (v := .tuple #[.agg #[.int .i64 R.most, .int .i64 R.again, .slice a1 R.said.length c1, .int .i64 R.heard, .int .i64 R.said.length, .slice a2 R.took.length c2, .int .i64 R.gave, .int .i64 now, .bool true, .bool false], .agg #[.int .i64 R.heard, .slice au (R.said.length - R.heard) cu, .int .i64 R.took.length], .bool true]) (by simp [results, Try.results29, go_sem, e0, e1, e2, e3, e4, e5, e6, e7, e8, e9, x0, x1, x2]) rfl ?_
              have hbn := HO7.out.new ⟨b, 68, #[.int .i64 R.heard, .slice au (R.said.length - R.heard) cu, .int .i64 R.took.length]⟩ (by simp)
              have M6 := HM5.out.drop (show w.heap.size ≤ w.heap.size + 2 by omega)
              have M7 := M6.drop (show w.heap.size ≤ w.heap.size + 1 by omega)
              have M8 := M7.drop (Nat.le_refl w.heap.size)
              have M9 := M8.drop hbn
              have hON : Ow W5 w Bu := ⟨M9, fun x hx => HO7.out.new x (by simp [hx])⟩
              have hRU := HRu.out
              first | exact ⟨_, rfl, Bu, hON, hRU⟩ | exact ⟨_, Bu, rfl, hON, hRU⟩
            · intro K hK
              refine wp_store_blk 27 (.tmp 4) (.tmp 65) (by rfl) (B := []) HO8.out.mem (by rfl) #[.int .i64 R.most, .int .i64 R.again, .slice a1 R.said.length c1, .int .i64 R.heard, .int .i64 R.said.length, .slice a2 R.took.length c2, .int .i64 R.gave, .int .i64 now, .bool true, .bool false] (by rfl) (by kernel_rfl) (by rfl) (by simp [Value.oneCell']) (fun W4 M4 => hK _ _ ?_)
              clear hK K
              have hb4 := HasBlk.mk' (M4.has ⟨b, 68, #[.int .i64 R.heard, .slice au (R.said.length - R.heard) cu, .int .i64 R.took.length]⟩ (by simp))
              have p0 := hb4.cell 0
              have p1 := hb4.cell 1
              have p2 := hb4.cell 2
              have ltb := hb4.lt
              have M4' := Lib.hid M4
              refine step_one (n := 2) (k := 1) (by kernel_rfl) (by rfl) (by rfl) ?_
              intro K hK
              go_simp
              refine hK _ _ ?_
              clear hK K
              refine step_one (n := 1) (k := 3) (by kernel_rfl) (by rfl) (by rfl) ?_
              intro K hK
              refine wp_store_blk 68 (.tmp 5) (.tmp 66) (by rfl) (B := []) (M4'.out.perm (L' := ⟨w.heap.size + 2, 68, #[.int .i64 0, .slice none 0 0, .int .i64 0]⟩ :: (⟨w.heap.size + 1, 27, #[.int .i64 R.most, .int .i64 R.again, .slice a1 R.said.length c1, .int .i64 R.heard, .int .i64 R.said.length, .slice a2 R.took.length c2, .int .i64 R.gave, .int .i64 now, .bool true, .bool false]⟩ :: (⟨w.heap.size, 27, #[.int .i64 R.most, .int .i64 R.again, .slice a1 R.said.length c1, .int .i64 R.heard, .int .i64 R.said.length, .slice a2 R.took.length c2, .int .i64 R.gave, .int .i64 now, .bool true, .bool false]⟩ :: (⟨b, 68, #[.int .i64 R.heard, .slice au (R.said.length - R.heard) cu, .int .i64 R.took.length]⟩ :: Bu)))) (perm_cnt fun x => by simp only [cnt_append, cnt_cons, cnt_nil] <;> omega)) (by rfl) #[.int .i64 R.heard, .slice au (R.said.length - R.heard) cu, .int .i64 R.took.length] (by rfl) (by kernel_rfl) (by rfl) (by simp [Value.oneCell']) (fun W5 M5 => hK _ _ ?_)
              clear hK K
              have hq2 := HasBlk.mk' (M5.has _ (List.mem_cons_self ..))
              have hq1 := HasBlk.mk' (M5.has _ (List.mem_cons_of_mem _ (List.mem_cons_self ..)))
              have HM5 := Lib.hid M5
              have e0 := hq1.cell 0
              have e1 := hq1.cell 1
              have e2 := hq1.cell 2
              have e3 := hq1.cell 3
              have e4 := hq1.cell 4
              have e5 := hq1.cell 5
              have e6 := hq1.cell 6
              have e7 := hq1.cell 7
              have e8 := hq1.cell 8
              have e9 := hq1.cell 9
              have x0 := hq2.cell 0
              have x1 := hq2.cell 1
              have x2 := hq2.cell 2
              clear M4 M5 hq1 hq2
              refine last_one (k := 4) (by kernel_rfl) (by kernel_rfl) (by rfl) ?_ ?_
              · rfl
              intro K hK
              go_simp
              refine hK _ _ ?_
              clear hK K
              go_wp2
              refine bodyPost_ret (v := .tuple #[.agg #[.int .i64 R.most, .int .i64 R.again, .slice a1 R.said.length c1, .int .i64 R.heard, .int .i64 R.said.length, .slice a2 R.took.length c2, .int .i64 R.gave, .int .i64 now, .bool true, .bool false], .agg #[.int .i64 R.heard, .slice au (R.said.length - R.heard) cu, .int .i64 R.took.length], .bool true]) (by simp [results, Try.results29, go_sem, e0, e1, e2, e3, e4, e5, e6, e7, e8, e9, x0, x1, x2]) rfl ?_
              have hbn := HO7.out.new ⟨b, 68, #[.int .i64 R.heard, .slice au (R.said.length - R.heard) cu, .int .i64 R.took.length]⟩ (by simp)
              have M6 := HM5.out.drop (show w.heap.size ≤ w.heap.size + 2 by omega)
              have M7 := M6.drop (show w.heap.size ≤ w.heap.size + 1 by omega)
              have M8 := M7.drop (Nat.le_refl w.heap.size)
              have M9 := M8.drop hbn
              have hON : Ow W5 w Bu := ⟨M9, fun x hx => HO7.out.new x (by simp [hx])⟩
              have hRU := HRu.out
              first | exact ⟨_, rfl, Bu, hON, hRU⟩ | exact ⟨_, Bu, rfl, hON, hRU⟩
          · intro K hK
            go_simp
            refine hK _ _ ?_
            clear hK K
            refine step_one (n := 3) (k := 0) (by kernel_rfl) (by rfl) (by rfl) ?_
            intro K hK
            go_simp
            refine hK _ _ ?_
            clear hK K
            refine step_one (n := 2) (k := 2) (by kernel_rfl) (by rfl) (by rfl) ?_
            intro K hK
            refine wp_store_blk 27 (.tmp 4) (.tmp 65) (by rfl) (B := []) HO8.out.mem (by rfl) #[.int .i64 R.most, .int .i64 R.again, .slice a1 R.said.length c1, .int .i64 R.heard, .int .i64 R.said.length, .slice a2 R.took.length c2, .int .i64 R.gave, .int .i64 now, .bool true, .bool false] (by rfl) (by kernel_rfl) (by rfl) (by simp [Value.oneCell']) (fun W4 M4 => hK _ _ ?_)
            clear hK K
            have M4' := Lib.hid M4
            refine step_one (n := 1) (k := 3) (by kernel_rfl) (by rfl) (by rfl) ?_
            intro K hK
            refine wp_store_blk 68 (.tmp 5) (.tmp 66) (by rfl) (B := []) (M4'.out.perm (L' := ⟨w.heap.size + 2, 68, #[.int .i64 0, .slice none 0 0, .int .i64 0]⟩ :: (⟨w.heap.size + 1, 27, #[.int .i64 R.most, .int .i64 R.again, .slice a1 R.said.length c1, .int .i64 R.heard, .int .i64 R.said.length, .slice a2 R.took.length c2, .int .i64 R.gave, .int .i64 now, .bool true, .bool false]⟩ :: (⟨w.heap.size, 27, #[.int .i64 R.most, .int .i64 R.again, .slice a1 R.said.length c1, .int .i64 R.heard, .int .i64 R.said.length, .slice a2 R.took.length c2, .int .i64 R.gave, .int .i64 now, .bool true, .bool false]⟩ :: (⟨b, 68, #[.int .i64 R.heard, .slice au (R.said.length - R.heard) cu, .int .i64 R.took.length]⟩ :: Bu)))) (perm_cnt fun x => by simp only [cnt_append, cnt_cons, cnt_nil] <;> omega)) (by rfl) #[.int .i64 R.heard, .slice au (R.said.length - R.heard) cu, .int .i64 R.took.length] (by rfl) (by kernel_rfl) (by rfl) (by simp [Value.oneCell']) (fun W5 M5 => hK _ _ ?_)
            clear hK K
            have hq2 := HasBlk.mk' (M5.has _ (List.mem_cons_self ..))
            have hq1 := HasBlk.mk' (M5.has _ (List.mem_cons_of_mem _ (List.mem_cons_self ..)))
            have HM5 := Lib.hid M5
            have e0 := hq1.cell 0
            have e1 := hq1.cell 1
            have e2 := hq1.cell 2
            have e3 := hq1.cell 3
            have e4 := hq1.cell 4
            have e5 := hq1.cell 5
            have e6 := hq1.cell 6
            have e7 := hq1.cell 7
            have e8 := hq1.cell 8
            have e9 := hq1.cell 9
            have x0 := hq2.cell 0
            have x1 := hq2.cell 1
            have x2 := hq2.cell 2
            clear M4 M5 hq1 hq2
            refine last_one (k := 4) (by kernel_rfl) (by kernel_rfl) (by rfl) ?_ ?_
            · rfl
            intro K hK
            go_simp
            refine hK _ _ ?_
            clear hK K
            go_wp2
            refine bodyPost_ret (v := .tuple #[.agg #[.int .i64 R.most, .int .i64 R.again, .slice a1 R.said.length c1, .int .i64 R.heard, .int .i64 R.said.length, .slice a2 R.took.length c2, .int .i64 R.gave, .int .i64 now, .bool true, .bool false], .agg #[.int .i64 R.heard, .slice au (R.said.length - R.heard) cu, .int .i64 R.took.length], .bool true]) (by simp [results, Try.results29, go_sem, e0, e1, e2, e3, e4, e5, e6, e7, e8, e9, x0, x1, x2]) rfl ?_
            have hbn := HO7.out.new ⟨b, 68, #[.int .i64 R.heard, .slice au (R.said.length - R.heard) cu, .int .i64 R.took.length]⟩ (by simp)
            have M6 := HM5.out.drop (show w.heap.size ≤ w.heap.size + 2 by omega)
            have M7 := M6.drop (show w.heap.size ≤ w.heap.size + 1 by omega)
            have M8 := M7.drop (Nat.le_refl w.heap.size)
            have M9 := M8.drop hbn
            have hON : Ow W5 w Bu := ⟨M9, fun x hx => HO7.out.new x (by simp [hx])⟩
            have hRU := HRu.out
            first | exact ⟨_, rfl, Bu, hON, hRU⟩ | exact ⟨_, Bu, rfl, hON, hRU⟩
        · have e4 : decide ((R.again : Int) ≤ (now : Int) - (R.last : Int)) = false := decide_eq_false (by omega)
          have how : R.owes = true := by simpa [k1, k3] using hd
          rw [how]
          clear hd hwe how
          go_enter Try.func29, Try.ntmps29
          go_wp2_with fail
          refine wp_opq (fun W => Ow W w [⟨w.heap.size + 2, 68, #[.int .i64 0, .slice none 0 0, .int .i64 0]⟩, ⟨w.heap.size + 1, 27, #[.int .i64 0, .int .i64 0, .slice none 0 0, .int .i64 0, .int .i64 0, .slice none 0 0, .int .i64 0, .int .i64 0, .bool false, .bool false]⟩, ⟨w.heap.size, 27, #[.int .i64 R.most, .int .i64 R.again, .slice a1 R.said.length c1, .int .i64 R.heard, .int .i64 R.out, .slice a2 R.took.length c2, .int .i64 R.gave, .int .i64 R.last, .bool true, .bool true]⟩]) ((((Ow.start w).key #[.int .i64 R.most, .int .i64 R.again, .slice a1 R.said.length c1, .int .i64 R.heard, .int .i64 R.out, .slice a2 R.took.length c2, .int .i64 R.gave, .int .i64 R.last, .bool true, .bool true] 27 w.heap.size rfl).key #[.int .i64 0, .int .i64 0, .slice none 0 0, .int .i64 0, .int .i64 0, .slice none 0 0, .int .i64 0, .int .i64 0, .bool false, .bool false] 27 (w.heap.size + 1) (by simp)).key #[.int .i64 0, .slice none 0 0, .int .i64 0] 68 (w.heap.size + 2) (by simp)) ?_
          intro W1 O1
          have HO1 := Lib.hid O1
          have hb0 := O1.has (b := w.heap.size) (t := 27) (cs := #[.int .i64 R.most, .int .i64 R.again, .slice a1 R.said.length c1, .int .i64 R.heard, .int .i64 R.out, .slice a2 R.took.length c2, .int .i64 R.gave, .int .i64 R.last, .bool true, .bool true]) (by simp)
          have k2 := hb0.cell 2
          have k3 := hb0.cell 3
          have k5 := hb0.cell 5
          have lt1 := hb0.lt
          have HAC1 : Hid (∀ ad, A = some ad → ∀ j u, (us.drop R.heard)[j]? = some u → W1.cell? (ad.add j) = some u) := fun ad had j u hj => HAC.out W1 O1.below ad had j u hj
          have HAO1 : Hid (∀ ad, A = some ad → us.drop R.heard ≠ [] → ad.block < W1.heap.size) := fun ad had hne => Nat.lt_of_lt_of_le (HAO.out ad had hne) O1.mem.size
          clear O1 hb0
          refine wp_region_rc 14 1 (by kernel_rfl) (by kernel_rfl) (by kernel_rfl) (by kernel_rfl) ?_
          simp only [List.take_succ_cons, List.take_zero]
          repeat (first
            | (refine B_skip ?_ ?_; (· rfl); (try simp only [Act.put, List.setIfInBounds_toArray, List.set_cons_zero, List.set_cons_succ]))
            | (refine B_move rfl ?_ ?_; (· rfl); (try simp only [Act.eval, Act.put, Array.getD_eq_getD_getElem?, List.getElem?_toArray, List.getElem?_cons_succ, List.getElem?_cons_zero, Option.getD_some, List.setIfInBounds_toArray, List.set_cons_zero, List.set_cons_succ]))
            | (refine B_plain ?_ ?_; (· rfl); intro K hK; go_big_quiet_op; with_reducible refine hK _ ?_; clear hK K)
            | (refine B_newsl0 elt_msg rfl rfl ?_ ?_; (· rfl))
            | (refine B_appendL (s := 46) rfl rfl elt_msg (by omega) rfl A (R.said.length - R.heard) (c1 - R.heard) (us.drop R.heard) (fun u => rfl) hdl HAN.out HAC1.out HAO1.out HD1.out (by omega) ?_ ?_; (· rfl))
            | (refine B_readR (s := 52) rfl rfl (fun u => .agg #[.int .i64 R.heard, u, .int .i64 R.took.length]) (fun v W => ∃ u, v = .agg #[.int .i64 R.heard, u, .int .i64 R.took.length] ∧ RowOf 34 W1.heap.size (us.drop R.heard) u W) (fun v w1 w2 hx hv => by obtain ⟨u, e, h⟩ := hv; exact ⟨u, e, stays_rowOf _ _ _ u w1 w2 hx h⟩) (fun u W hu => ⟨u, rfl, hu⟩) ?_ (fun u W hu => ?_) ?_; (· rfl); (· (obtain ⟨ax, cx, Bx, rfl, -, -⟩ := hu; kernel_rfl)))
            | (refine B_new (t := 68) (z := .agg #[.int .i64 0, .slice none 0 0, .int .i64 0]) rfl rfl (by kernel_rfl) ?_ ?_; (· rfl)))
          refine B_nil ?_ rfl ?_ ?_
          · kernel_rfl
          · rfl
          rintro _ ⟨⟨g4, d4⟩, rfl⟩
          simp only [fin, Act.put, List.setIfInBounds_toArray, List.set_cons_zero, List.set_cons_succ]
          rintro _ ⟨b, rfl, hb1, hb2⟩ _ ⟨u, rfl, hu⟩ u52 - u46 -
          obtain ⟨au, cu, Bu, rfl, Ru, hBu⟩ := hu
          have O4 := HO1.out.found (B := ⟨b, 68, #[.int .i64 0, .slice none 0 0, .int .i64 0]⟩ :: Bu) ⟨⟨g4, d4⟩, rfl⟩ (List.pairwise_cons.2 ⟨fun y hy => by
            refine HasBlk.type_ne (show HasBlk _ b 68 #[.int .i64 0, .slice none 0 0, .int .i64 0] from hb2) (hBu y hy).2 ?_
            rw [Ru.ty y hy]; decide, Ru.apart⟩) (fun y hy => by
            rcases List.mem_cons.1 hy with rfl | hy
            · exact ⟨hb1, hb2⟩
            · exact hBu y hy)
          rw [hdl]
          rw [hdl] at Ru
          refine last_one (k := 14) (by kernel_rfl) (by kernel_rfl) (by rfl) ?_ ?_
          · rfl
          intro K hK
          refine wp_store_blk 68 (.tmp 8) (.tmp 56) (by rfl) (B := []) O4.mem (by rfl) #[.int .i64 R.heard, .slice au (R.said.length - R.heard) cu, .int .i64 R.took.length] (by rfl) (by kernel_rfl) (by rfl) (by simp [Value.oneCell']) (fun W2 M2 => hK _ _ ?_)
          clear hK K
          have O5 : Ow W2 w (⟨b, 68, #[.int .i64 R.heard, .slice au (R.said.length - R.heard) cu, .int .i64 R.took.length]⟩ :: (Bu ++ [⟨w.heap.size + 2, 68, #[.int .i64 0, .slice none 0 0, .int .i64 0]⟩, ⟨w.heap.size + 1, 27, #[.int .i64 0, .int .i64 0, .slice none 0 0, .int .i64 0, .int .i64 0, .slice none 0 0, .int .i64 0, .int .i64 0, .bool false, .bool false]⟩, ⟨w.heap.size, 27, #[.int .i64 R.most, .int .i64 R.again, .slice a1 R.said.length c1, .int .i64 R.heard, .int .i64 R.out, .slice a2 R.took.length c2, .int .i64 R.gave, .int .i64 R.last, .bool true, .bool true]⟩])) := ⟨M2, New.cons (O4.new ⟨b, 68, #[.int .i64 0, .slice none 0 0, .int .i64 0]⟩ (by simp)) fun x hx => O4.new x (List.mem_cons_of_mem _ hx)⟩
          have HO6 := Lib.hid (O5.perm (L' := ⟨w.heap.size, 27, #[.int .i64 R.most, .int .i64 R.again, .slice a1 R.said.length c1, .int .i64 R.heard, .int .i64 R.out, .slice a2 R.took.length c2, .int .i64 R.gave, .int .i64 R.last, .bool true, .bool true]⟩ :: (⟨b, 68, #[.int .i64 R.heard, .slice au (R.said.length - R.heard) cu, .int .i64 R.took.length]⟩ :: (⟨w.heap.size + 1, 27, #[.int .i64 0, .int .i64 0, .slice none 0 0, .int .i64 0, .int .i64 0, .slice none 0 0, .int .i64 0, .int .i64 0, .bool false, .bool false]⟩ :: (⟨w.heap.size + 2, 68, #[.int .i64 0, .slice none 0 0, .int .i64 0]⟩ :: Bu)))) (perm_cnt fun x => by simp only [cnt_append, cnt_cons, cnt_nil] <;> omega))
          have HRu := Lib.hid Ru
          have hb0 := HO6.out.has (List.mem_cons_self ..)
          have g0_ := hb0.cell 0
          have g1_ := hb0.cell 1
          have g2_ := hb0.cell 2
          have g3_ := hb0.cell 3
          have g4_ := hb0.cell 4
          have g5_ := hb0.cell 5
          have g6_ := hb0.cell 6
          have g7_ := hb0.cell 7
          have g8_ := hb0.cell 8
          have g9_ := hb0.cell 9
          have f4 := hb0.frozen 4
          have f7 := hb0.frozen 7
          have f8 := hb0.frozen 8
          have f9 := hb0.frozen 9
          have lt2 := hb0.lt
          have hne : b ≠ w.heap.size := by omega
          have hne2 : w.heap.size ≠ b := by omega
          clear O4 O5 M2 hb0 hb1 hb2 hBu Ru k2 k3 k5 lt1
          go_wp2
          refine wp_opq (fun W => Ow W w (⟨w.heap.size, 27, #[.int .i64 R.most, .int .i64 R.again, .slice a1 R.said.length c1, .int .i64 R.heard, .int .i64 R.said.length, .slice a2 R.took.length c2, .int .i64 R.gave, .int .i64 now, .bool true, .bool false]⟩ :: (⟨b, 68, #[.int .i64 R.heard, .slice au (R.said.length - R.heard) cu, .int .i64 R.took.length]⟩ :: (⟨w.heap.size + 1, 27, #[.int .i64 0, .int .i64 0, .slice none 0 0, .int .i64 0, .int .i64 0, .slice none 0 0, .int .i64 0, .int .i64 0, .bool false, .bool false]⟩ :: (⟨w.heap.size + 2, 68, #[.int .i64 0, .slice none 0 0, .int .i64 0]⟩ :: Bu))))) (((((HO6.out.set 4 _).set 7 _).set 8 _).set 9 _).as (by simp)) ?_
          intro W3 O7
          have HO7 := Lib.hid O7
          have hb0 := O7.has (List.mem_cons_self ..)
          have hbb := O7.has (List.mem_cons_of_mem _ (List.mem_cons_self ..))
          have d0 := hb0.cell 0
          have d1 := hb0.cell 1
          have d2 := hb0.cell 2
          have d3 := hb0.cell 3
          have d4 := hb0.cell 4
          have d5 := hb0.cell 5
          have d6 := hb0.cell 6
          have d7 := hb0.cell 7
          have d8 := hb0.cell 8
          have d9 := hb0.cell 9
          have lt3 := hb0.lt
          have p0 := hbb.cell 0
          have p1 := hbb.cell 1
          have p2 := hbb.cell 2
          have ltb := hbb.lt
          clear O7 hb0 hbb
          refine wp_region_op (fun W => Ow W w (⟨w.heap.size, 27, #[.int .i64 R.most, .int .i64 R.again, .slice a1 R.said.length c1, .int .i64 R.heard, .int .i64 R.said.length, .slice a2 R.took.length c2, .int .i64 R.gave, .int .i64 now, .bool true, .bool false]⟩ :: (⟨b, 68, #[.int .i64 R.heard, .slice au (R.said.length - R.heard) cu, .int .i64 R.took.length]⟩ :: (⟨w.heap.size + 1, 27, #[.int .i64 0, .int .i64 0, .slice none 0 0, .int .i64 0, .int .i64 0, .slice none 0 0, .int .i64 0, .int .i64 0, .bool false, .bool false]⟩ :: (⟨w.heap.size + 2, 68, #[.int .i64 0, .slice none 0 0, .int .i64 0]⟩ :: Bu))))) (by kernel_rfl) HO7.out.drew ?_
          intro W8 O8
          have hb8 := O8.has (List.mem_cons_self ..)
          have hbb := O8.has (List.mem_cons_of_mem _ (List.mem_cons_self ..))
          have y0 := hb8.cell 0
          have y1 := hb8.cell 1
          have y2 := hb8.cell 2
          have y3 := hb8.cell 3
          have y4 := hb8.cell 4
          have y5 := hb8.cell 5
          have y6 := hb8.cell 6
          have y7 := hb8.cell 7
          have y8 := hb8.cell 8
          have y9 := hb8.cell 9
          have lt8 := hb8.lt
          have p0 := hbb.cell 0
          have p1 := hbb.cell 1
          have p2 := hbb.cell 2
          have ltb := hbb.lt
          have HO8 := Lib.hid (O8.perm (L' := ⟨w.heap.size + 1, 27, #[.int .i64 0, .int .i64 0, .slice none 0 0, .int .i64 0, .int .i64 0, .slice none 0 0, .int .i64 0, .int .i64 0, .bool false, .bool false]⟩ :: (⟨w.heap.size, 27, #[.int .i64 R.most, .int .i64 R.again, .slice a1 R.said.length c1, .int .i64 R.heard, .int .i64 R.said.length, .slice a2 R.took.length c2, .int .i64 R.gave, .int .i64 now, .bool true, .bool false]⟩ :: (⟨b, 68, #[.int .i64 R.heard, .slice au (R.said.length - R.heard) cu, .int .i64 R.took.length]⟩ :: (⟨w.heap.size + 2, 68, #[.int .i64 0, .slice none 0 0, .int .i64 0]⟩ :: Bu)))) (perm_cnt fun x => by simp only [cnt_append, cnt_cons, cnt_nil] <;> omega))
          clear O8 hb8 hbb
          refine step_two (n := 4) (k := 0) (l := 1) (by kernel_rfl) (by rfl) (by rfl) (by rfl) (by rfl) ?_ ?_
          · intro K hK
            go_simp
            refine hK _ _ ?_
            clear hK K
            refine step_two (n := 3) (k := 1) (l := 2) (by kernel_rfl) (by rfl) (by rfl) (by rfl) (by rfl) ?_ ?_
            · intro K hK
              go_simp
              refine hK _ _ ?_
              clear hK K
              refine step_one (n := 2) (k := 2) (by kernel_rfl) (by rfl) (by rfl) ?_
              intro K hK
              refine wp_store_blk 27 (.tmp 4) (.tmp 65) (by rfl) (B := []) HO8.out.mem (by rfl) #[.int .i64 R.most, .int .i64 R.again, .slice a1 R.said.length c1, .int .i64 R.heard, .int .i64 R.said.length, .slice a2 R.took.length c2, .int .i64 R.gave, .int .i64 now, .bool true, .bool false] (by rfl) (by kernel_rfl) (by rfl) (by simp [Value.oneCell']) (fun W4 M4 => hK _ _ ?_)
              clear hK K
              have M4' := Lib.hid M4
              refine step_one (n := 1) (k := 3) (by kernel_rfl) (by rfl) (by rfl) ?_
              intro K hK
              refine wp_store_blk 68 (.tmp 5) (.tmp 66) (by rfl) (B := []) (M4'.out.perm (L' := ⟨w.heap.size + 2, 68, #[.int .i64 0, .slice none 0 0, .int .i64 0]⟩ :: (⟨w.heap.size + 1, 27, #[.int .i64 R.most, .int .i64 R.again, .slice a1 R.said.length c1, .int .i64 R.heard, .int .i64 R.said.length, .slice a2 R.took.length c2, .int .i64 R.gave, .int .i64 now, .bool true, .bool false]⟩ :: (⟨w.heap.size, 27, #[.int .i64 R.most, .int .i64 R.again, .slice a1 R.said.length c1, .int .i64 R.heard, .int .i64 R.said.length, .slice a2 R.took.length c2, .int .i64 R.gave, .int .i64 now, .bool true, .bool false]⟩ :: (⟨b, 68, #[.int .i64 R.heard, .slice au (R.said.length - R.heard) cu, .int .i64 R.took.length]⟩ :: Bu)))) (perm_cnt fun x => by simp only [cnt_append, cnt_cons, cnt_nil] <;> omega)) (by rfl) #[.int .i64 R.heard, .slice au (R.said.length - R.heard) cu, .int .i64 R.took.length] (by rfl) (by kernel_rfl) (by rfl) (by simp [Value.oneCell']) (fun W5 M5 => hK _ _ ?_)
              clear hK K
              have hq2 := HasBlk.mk' (M5.has _ (List.mem_cons_self ..))
              have hq1 := HasBlk.mk' (M5.has _ (List.mem_cons_of_mem _ (List.mem_cons_self ..)))
              have HM5 := Lib.hid M5
              have e0 := hq1.cell 0
              have e1 := hq1.cell 1
              have e2 := hq1.cell 2
              have e3 := hq1.cell 3
              have e4 := hq1.cell 4
              have e5 := hq1.cell 5
              have e6 := hq1.cell 6
              have e7 := hq1.cell 7
              have e8 := hq1.cell 8
              have e9 := hq1.cell 9
              have x0 := hq2.cell 0
              have x1 := hq2.cell 1
              have x2 := hq2.cell 2
              clear M4 M5 hq1 hq2
              refine last_one (k := 4) (by kernel_rfl) (by kernel_rfl) (by rfl) ?_ ?_
              · rfl
              intro K hK
              go_simp
              refine hK _ _ ?_
              clear hK K
              go_wp2
              refine bodyPost_ret (v := .tuple #[.agg #[.int .i64 R.most, .int .i64 R.again, .slice a1 R.said.length c1, .int .i64 R.heard, .int .i64 R.said.length, .slice a2 R.took.length c2, .int .i64 R.gave, .int .i64 now, .bool true, .bool false], .agg #[.int .i64 R.heard, .slice au (R.said.length - R.heard) cu, .int .i64 R.took.length], .bool true]) (by simp [results, Try.results29, go_sem, e0, e1, e2, e3, e4, e5, e6, e7, e8, e9, x0, x1, x2]) rfl ?_
              have hbn := HO7.out.new ⟨b, 68, #[.int .i64 R.heard, .slice au (R.said.length - R.heard) cu, .int .i64 R.took.length]⟩ (by simp)
              have M6 := HM5.out.drop (show w.heap.size ≤ w.heap.size + 2 by omega)
              have M7 := M6.drop (show w.heap.size ≤ w.heap.size + 1 by omega)
              have M8 := M7.drop (Nat.le_refl w.heap.size)
              have M9 := M8.drop hbn
              have hON : Ow W5 w Bu := ⟨M9, fun x hx => HO7.out.new x (by simp [hx])⟩
              have hRU := HRu.out
              first | exact ⟨_, rfl, Bu, hON, hRU⟩ | exact ⟨_, Bu, rfl, hON, hRU⟩
            · intro K hK
              refine wp_store_blk 27 (.tmp 4) (.tmp 65) (by rfl) (B := []) HO8.out.mem (by rfl) #[.int .i64 R.most, .int .i64 R.again, .slice a1 R.said.length c1, .int .i64 R.heard, .int .i64 R.said.length, .slice a2 R.took.length c2, .int .i64 R.gave, .int .i64 now, .bool true, .bool false] (by rfl) (by kernel_rfl) (by rfl) (by simp [Value.oneCell']) (fun W4 M4 => hK _ _ ?_)
              clear hK K
              have hb4 := HasBlk.mk' (M4.has ⟨b, 68, #[.int .i64 R.heard, .slice au (R.said.length - R.heard) cu, .int .i64 R.took.length]⟩ (by simp))
              have p0 := hb4.cell 0
              have p1 := hb4.cell 1
              have p2 := hb4.cell 2
              have ltb := hb4.lt
              have M4' := Lib.hid M4
              refine step_one (n := 2) (k := 1) (by kernel_rfl) (by rfl) (by rfl) ?_
              intro K hK
              go_simp
              refine hK _ _ ?_
              clear hK K
              refine step_one (n := 1) (k := 3) (by kernel_rfl) (by rfl) (by rfl) ?_
              intro K hK
              refine wp_store_blk 68 (.tmp 5) (.tmp 66) (by rfl) (B := []) (M4'.out.perm (L' := ⟨w.heap.size + 2, 68, #[.int .i64 0, .slice none 0 0, .int .i64 0]⟩ :: (⟨w.heap.size + 1, 27, #[.int .i64 R.most, .int .i64 R.again, .slice a1 R.said.length c1, .int .i64 R.heard, .int .i64 R.said.length, .slice a2 R.took.length c2, .int .i64 R.gave, .int .i64 now, .bool true, .bool false]⟩ :: (⟨w.heap.size, 27, #[.int .i64 R.most, .int .i64 R.again, .slice a1 R.said.length c1, .int .i64 R.heard, .int .i64 R.said.length, .slice a2 R.took.length c2, .int .i64 R.gave, .int .i64 now, .bool true, .bool false]⟩ :: (⟨b, 68, #[.int .i64 R.heard, .slice au (R.said.length - R.heard) cu, .int .i64 R.took.length]⟩ :: Bu)))) (perm_cnt fun x => by simp only [cnt_append, cnt_cons, cnt_nil] <;> omega)) (by rfl) #[.int .i64 R.heard, .slice au (R.said.length - R.heard) cu, .int .i64 R.took.length] (by rfl) (by kernel_rfl) (by rfl) (by simp [Value.oneCell']) (fun W5 M5 => hK _ _ ?_)
              clear hK K
              have hq2 := HasBlk.mk' (M5.has _ (List.mem_cons_self ..))
              have hq1 := HasBlk.mk' (M5.has _ (List.mem_cons_of_mem _ (List.mem_cons_self ..)))
              have HM5 := Lib.hid M5
              have e0 := hq1.cell 0
              have e1 := hq1.cell 1
              have e2 := hq1.cell 2
              have e3 := hq1.cell 3
              have e4 := hq1.cell 4
              have e5 := hq1.cell 5
              have e6 := hq1.cell 6
              have e7 := hq1.cell 7
              have e8 := hq1.cell 8
              have e9 := hq1.cell 9
              have x0 := hq2.cell 0
              have x1 := hq2.cell 1
              have x2 := hq2.cell 2
              clear M4 M5 hq1 hq2
              refine last_one (k := 4) (by kernel_rfl) (by kernel_rfl) (by rfl) ?_ ?_
              · rfl
              intro K hK
              go_simp
              refine hK _ _ ?_
              clear hK K
              go_wp2
              refine bodyPost_ret (v := .tuple #[.agg #[.int .i64 R.most, .int .i64 R.again, .slice a1 R.said.length c1, .int .i64 R.heard, .int .i64 R.said.length, .slice a2 R.took.length c2, .int .i64 R.gave, .int .i64 now, .bool true, .bool false], .agg #[.int .i64 R.heard, .slice au (R.said.length - R.heard) cu, .int .i64 R.took.length], .bool true]) (by simp [results, Try.results29, go_sem, e0, e1, e2, e3, e4, e5, e6, e7, e8, e9, x0, x1, x2]) rfl ?_
              have hbn := HO7.out.new ⟨b, 68, #[.int .i64 R.heard, .slice au (R.said.length - R.heard) cu, .int .i64 R.took.length]⟩ (by simp)
              have M6 := HM5.out.drop (show w.heap.size ≤ w.heap.size + 2 by omega)
              have M7 := M6.drop (show w.heap.size ≤ w.heap.size + 1 by omega)
              have M8 := M7.drop (Nat.le_refl w.heap.size)
              have M9 := M8.drop hbn
              have hON : Ow W5 w Bu := ⟨M9, fun x hx => HO7.out.new x (by simp [hx])⟩
              have hRU := HRu.out
              first | exact ⟨_, rfl, Bu, hON, hRU⟩ | exact ⟨_, Bu, rfl, hON, hRU⟩
          · intro K hK
            go_simp
            refine hK _ _ ?_
            clear hK K
            refine step_one (n := 3) (k := 0) (by kernel_rfl) (by rfl) (by rfl) ?_
            intro K hK
            go_simp
            refine hK _ _ ?_
            clear hK K
            refine step_one (n := 2) (k := 2) (by kernel_rfl) (by rfl) (by rfl) ?_
            intro K hK
            refine wp_store_blk 27 (.tmp 4) (.tmp 65) (by rfl) (B := []) HO8.out.mem (by rfl) #[.int .i64 R.most, .int .i64 R.again, .slice a1 R.said.length c1, .int .i64 R.heard, .int .i64 R.said.length, .slice a2 R.took.length c2, .int .i64 R.gave, .int .i64 now, .bool true, .bool false] (by rfl) (by kernel_rfl) (by rfl) (by simp [Value.oneCell']) (fun W4 M4 => hK _ _ ?_)
            clear hK K
            have M4' := Lib.hid M4
            refine step_one (n := 1) (k := 3) (by kernel_rfl) (by rfl) (by rfl) ?_
            intro K hK
            refine wp_store_blk 68 (.tmp 5) (.tmp 66) (by rfl) (B := []) (M4'.out.perm (L' := ⟨w.heap.size + 2, 68, #[.int .i64 0, .slice none 0 0, .int .i64 0]⟩ :: (⟨w.heap.size + 1, 27, #[.int .i64 R.most, .int .i64 R.again, .slice a1 R.said.length c1, .int .i64 R.heard, .int .i64 R.said.length, .slice a2 R.took.length c2, .int .i64 R.gave, .int .i64 now, .bool true, .bool false]⟩ :: (⟨w.heap.size, 27, #[.int .i64 R.most, .int .i64 R.again, .slice a1 R.said.length c1, .int .i64 R.heard, .int .i64 R.said.length, .slice a2 R.took.length c2, .int .i64 R.gave, .int .i64 now, .bool true, .bool false]⟩ :: (⟨b, 68, #[.int .i64 R.heard, .slice au (R.said.length - R.heard) cu, .int .i64 R.took.length]⟩ :: Bu)))) (perm_cnt fun x => by simp only [cnt_append, cnt_cons, cnt_nil] <;> omega)) (by rfl) #[.int .i64 R.heard, .slice au (R.said.length - R.heard) cu, .int .i64 R.took.length] (by rfl) (by kernel_rfl) (by rfl) (by simp [Value.oneCell']) (fun W5 M5 => hK _ _ ?_)
            clear hK K
            have hq2 := HasBlk.mk' (M5.has _ (List.mem_cons_self ..))
            have hq1 := HasBlk.mk' (M5.has _ (List.mem_cons_of_mem _ (List.mem_cons_self ..)))
            have HM5 := Lib.hid M5
            have e0 := hq1.cell 0
            have e1 := hq1.cell 1
            have e2 := hq1.cell 2
            have e3 := hq1.cell 3
            have e4 := hq1.cell 4
            have e5 := hq1.cell 5
            have e6 := hq1.cell 6
            have e7 := hq1.cell 7
            have e8 := hq1.cell 8
            have e9 := hq1.cell 9
            have x0 := hq2.cell 0
            have x1 := hq2.cell 1
            have x2 := hq2.cell 2
            clear M4 M5 hq1 hq2
            refine last_one (k := 4) (by kernel_rfl) (by kernel_rfl) (by rfl) ?_ ?_
            · rfl
            intro K hK
            go_simp
            refine hK _ _ ?_
            clear hK K
            go_wp2
            refine bodyPost_ret (v := .tuple #[.agg #[.int .i64 R.most, .int .i64 R.again, .slice a1 R.said.length c1, .int .i64 R.heard, .int .i64 R.said.length, .slice a2 R.took.length c2, .int .i64 R.gave, .int .i64 now, .bool true, .bool false], .agg #[.int .i64 R.heard, .slice au (R.said.length - R.heard) cu, .int .i64 R.took.length], .bool true]) (by simp [results, Try.results29, go_sem, e0, e1, e2, e3, e4, e5, e6, e7, e8, e9, x0, x1, x2]) rfl ?_
            have hbn := HO7.out.new ⟨b, 68, #[.int .i64 R.heard, .slice au (R.said.length - R.heard) cu, .int .i64 R.took.length]⟩ (by simp)
            have M6 := HM5.out.drop (show w.heap.size ≤ w.heap.size + 2 by omega)
            have M7 := M6.drop (show w.heap.size ≤ w.heap.size + 1 by omega)
            have M8 := M7.drop (Nat.le_refl w.heap.size)
            have M9 := M8.drop hbn
            have hON : Ow W5 w Bu := ⟨M9, fun x hx => HO7.out.new x (by simp [hx])⟩
            have hRU := HRu.out
            first | exact ⟨_, rfl, Bu, hON, hRU⟩ | exact ⟨_, Bu, rfl, hON, hRU⟩
      | false =>
        have how : R.owes = true := by simpa [k1, hwe] using hd
        rw [how]
        clear hd hwe how
        go_enter Try.func29, Try.ntmps29
        go_wp2_with fail
        refine wp_opq (fun W => Ow W w [⟨w.heap.size + 2, 68, #[.int .i64 0, .slice none 0 0, .int .i64 0]⟩, ⟨w.heap.size + 1, 27, #[.int .i64 0, .int .i64 0, .slice none 0 0, .int .i64 0, .int .i64 0, .slice none 0 0, .int .i64 0, .int .i64 0, .bool false, .bool false]⟩, ⟨w.heap.size, 27, #[.int .i64 R.most, .int .i64 R.again, .slice a1 R.said.length c1, .int .i64 R.heard, .int .i64 R.out, .slice a2 R.took.length c2, .int .i64 R.gave, .int .i64 R.last, .bool false, .bool true]⟩]) ((((Ow.start w).key #[.int .i64 R.most, .int .i64 R.again, .slice a1 R.said.length c1, .int .i64 R.heard, .int .i64 R.out, .slice a2 R.took.length c2, .int .i64 R.gave, .int .i64 R.last, .bool false, .bool true] 27 w.heap.size rfl).key #[.int .i64 0, .int .i64 0, .slice none 0 0, .int .i64 0, .int .i64 0, .slice none 0 0, .int .i64 0, .int .i64 0, .bool false, .bool false] 27 (w.heap.size + 1) (by simp)).key #[.int .i64 0, .slice none 0 0, .int .i64 0] 68 (w.heap.size + 2) (by simp)) ?_
        intro W1 O1
        have HO1 := Lib.hid O1
        have hb0 := O1.has (b := w.heap.size) (t := 27) (cs := #[.int .i64 R.most, .int .i64 R.again, .slice a1 R.said.length c1, .int .i64 R.heard, .int .i64 R.out, .slice a2 R.took.length c2, .int .i64 R.gave, .int .i64 R.last, .bool false, .bool true]) (by simp)
        have k2 := hb0.cell 2
        have k3 := hb0.cell 3
        have k5 := hb0.cell 5
        have lt1 := hb0.lt
        have HAC1 : Hid (∀ ad, A = some ad → ∀ j u, (us.drop R.heard)[j]? = some u → W1.cell? (ad.add j) = some u) := fun ad had j u hj => HAC.out W1 O1.below ad had j u hj
        have HAO1 : Hid (∀ ad, A = some ad → us.drop R.heard ≠ [] → ad.block < W1.heap.size) := fun ad had hne => Nat.lt_of_lt_of_le (HAO.out ad had hne) O1.mem.size
        clear O1 hb0
        refine wp_region_rc 14 1 (by kernel_rfl) (by kernel_rfl) (by kernel_rfl) (by kernel_rfl) ?_
        simp only [List.take_succ_cons, List.take_zero]
        repeat (first
          | (refine B_skip ?_ ?_; (· rfl); (try simp only [Act.put, List.setIfInBounds_toArray, List.set_cons_zero, List.set_cons_succ]))
          | (refine B_move rfl ?_ ?_; (· rfl); (try simp only [Act.eval, Act.put, Array.getD_eq_getD_getElem?, List.getElem?_toArray, List.getElem?_cons_succ, List.getElem?_cons_zero, Option.getD_some, List.setIfInBounds_toArray, List.set_cons_zero, List.set_cons_succ]))
          | (refine B_plain ?_ ?_; (· rfl); intro K hK; go_big_quiet_op; with_reducible refine hK _ ?_; clear hK K)
          | (refine B_newsl0 elt_msg rfl rfl ?_ ?_; (· rfl))
          | (refine B_appendL (s := 46) rfl rfl elt_msg (by omega) rfl A (R.said.length - R.heard) (c1 - R.heard) (us.drop R.heard) (fun u => rfl) hdl HAN.out HAC1.out HAO1.out HD1.out (by omega) ?_ ?_; (· rfl))
          | (refine B_readR (s := 52) rfl rfl (fun u => .agg #[.int .i64 R.heard, u, .int .i64 R.took.length]) (fun v W => ∃ u, v = .agg #[.int .i64 R.heard, u, .int .i64 R.took.length] ∧ RowOf 34 W1.heap.size (us.drop R.heard) u W) (fun v w1 w2 hx hv => by obtain ⟨u, e, h⟩ := hv; exact ⟨u, e, stays_rowOf _ _ _ u w1 w2 hx h⟩) (fun u W hu => ⟨u, rfl, hu⟩) ?_ (fun u W hu => ?_) ?_; (· rfl); (· (obtain ⟨ax, cx, Bx, rfl, -, -⟩ := hu; kernel_rfl)))
          | (refine B_new (t := 68) (z := .agg #[.int .i64 0, .slice none 0 0, .int .i64 0]) rfl rfl (by kernel_rfl) ?_ ?_; (· rfl)))
        refine B_nil ?_ rfl ?_ ?_
        · kernel_rfl
        · rfl
        rintro _ ⟨⟨g4, d4⟩, rfl⟩
        simp only [fin, Act.put, List.setIfInBounds_toArray, List.set_cons_zero, List.set_cons_succ]
        rintro _ ⟨b, rfl, hb1, hb2⟩ _ ⟨u, rfl, hu⟩ u52 - u46 -
        obtain ⟨au, cu, Bu, rfl, Ru, hBu⟩ := hu
        have O4 := HO1.out.found (B := ⟨b, 68, #[.int .i64 0, .slice none 0 0, .int .i64 0]⟩ :: Bu) ⟨⟨g4, d4⟩, rfl⟩ (List.pairwise_cons.2 ⟨fun y hy => by
          refine HasBlk.type_ne (show HasBlk _ b 68 #[.int .i64 0, .slice none 0 0, .int .i64 0] from hb2) (hBu y hy).2 ?_
          rw [Ru.ty y hy]; decide, Ru.apart⟩) (fun y hy => by
          rcases List.mem_cons.1 hy with rfl | hy
          · exact ⟨hb1, hb2⟩
          · exact hBu y hy)
        rw [hdl]
        rw [hdl] at Ru
        refine last_one (k := 14) (by kernel_rfl) (by kernel_rfl) (by rfl) ?_ ?_
        · rfl
        intro K hK
        refine wp_store_blk 68 (.tmp 8) (.tmp 56) (by rfl) (B := []) O4.mem (by rfl) #[.int .i64 R.heard, .slice au (R.said.length - R.heard) cu, .int .i64 R.took.length] (by rfl) (by kernel_rfl) (by rfl) (by simp [Value.oneCell']) (fun W2 M2 => hK _ _ ?_)
        clear hK K
        have O5 : Ow W2 w (⟨b, 68, #[.int .i64 R.heard, .slice au (R.said.length - R.heard) cu, .int .i64 R.took.length]⟩ :: (Bu ++ [⟨w.heap.size + 2, 68, #[.int .i64 0, .slice none 0 0, .int .i64 0]⟩, ⟨w.heap.size + 1, 27, #[.int .i64 0, .int .i64 0, .slice none 0 0, .int .i64 0, .int .i64 0, .slice none 0 0, .int .i64 0, .int .i64 0, .bool false, .bool false]⟩, ⟨w.heap.size, 27, #[.int .i64 R.most, .int .i64 R.again, .slice a1 R.said.length c1, .int .i64 R.heard, .int .i64 R.out, .slice a2 R.took.length c2, .int .i64 R.gave, .int .i64 R.last, .bool false, .bool true]⟩])) := ⟨M2, New.cons (O4.new ⟨b, 68, #[.int .i64 0, .slice none 0 0, .int .i64 0]⟩ (by simp)) fun x hx => O4.new x (List.mem_cons_of_mem _ hx)⟩
        have HO6 := Lib.hid (O5.perm (L' := ⟨w.heap.size, 27, #[.int .i64 R.most, .int .i64 R.again, .slice a1 R.said.length c1, .int .i64 R.heard, .int .i64 R.out, .slice a2 R.took.length c2, .int .i64 R.gave, .int .i64 R.last, .bool false, .bool true]⟩ :: (⟨b, 68, #[.int .i64 R.heard, .slice au (R.said.length - R.heard) cu, .int .i64 R.took.length]⟩ :: (⟨w.heap.size + 1, 27, #[.int .i64 0, .int .i64 0, .slice none 0 0, .int .i64 0, .int .i64 0, .slice none 0 0, .int .i64 0, .int .i64 0, .bool false, .bool false]⟩ :: (⟨w.heap.size + 2, 68, #[.int .i64 0, .slice none 0 0, .int .i64 0]⟩ :: Bu)))) (perm_cnt fun x => by simp only [cnt_append, cnt_cons, cnt_nil] <;> omega))
        have HRu := Lib.hid Ru
        have hb0 := HO6.out.has (List.mem_cons_self ..)
        have g0_ := hb0.cell 0
        have g1_ := hb0.cell 1
        have g2_ := hb0.cell 2
        have g3_ := hb0.cell 3
        have g4_ := hb0.cell 4
        have g5_ := hb0.cell 5
        have g6_ := hb0.cell 6
        have g7_ := hb0.cell 7
        have g8_ := hb0.cell 8
        have g9_ := hb0.cell 9
        have f4 := hb0.frozen 4
        have f7 := hb0.frozen 7
        have f8 := hb0.frozen 8
        have f9 := hb0.frozen 9
        have lt2 := hb0.lt
        have hne : b ≠ w.heap.size := by omega
        have hne2 : w.heap.size ≠ b := by omega
        clear O4 O5 M2 hb0 hb1 hb2 hBu Ru k2 k3 k5 lt1
        go_wp2
        refine wp_opq (fun W => Ow W w (⟨w.heap.size, 27, #[.int .i64 R.most, .int .i64 R.again, .slice a1 R.said.length c1, .int .i64 R.heard, .int .i64 R.said.length, .slice a2 R.took.length c2, .int .i64 R.gave, .int .i64 now, .bool true, .bool false]⟩ :: (⟨b, 68, #[.int .i64 R.heard, .slice au (R.said.length - R.heard) cu, .int .i64 R.took.length]⟩ :: (⟨w.heap.size + 1, 27, #[.int .i64 0, .int .i64 0, .slice none 0 0, .int .i64 0, .int .i64 0, .slice none 0 0, .int .i64 0, .int .i64 0, .bool false, .bool false]⟩ :: (⟨w.heap.size + 2, 68, #[.int .i64 0, .slice none 0 0, .int .i64 0]⟩ :: Bu))))) (((((HO6.out.set 4 _).set 7 _).set 8 _).set 9 _).as (by simp)) ?_
        intro W3 O7
        have HO7 := Lib.hid O7
        have hb0 := O7.has (List.mem_cons_self ..)
        have hbb := O7.has (List.mem_cons_of_mem _ (List.mem_cons_self ..))
        have d0 := hb0.cell 0
        have d1 := hb0.cell 1
        have d2 := hb0.cell 2
        have d3 := hb0.cell 3
        have d4 := hb0.cell 4
        have d5 := hb0.cell 5
        have d6 := hb0.cell 6
        have d7 := hb0.cell 7
        have d8 := hb0.cell 8
        have d9 := hb0.cell 9
        have lt3 := hb0.lt
        have p0 := hbb.cell 0
        have p1 := hbb.cell 1
        have p2 := hbb.cell 2
        have ltb := hbb.lt
        clear O7 hb0 hbb
        refine wp_region_op (fun W => Ow W w (⟨w.heap.size, 27, #[.int .i64 R.most, .int .i64 R.again, .slice a1 R.said.length c1, .int .i64 R.heard, .int .i64 R.said.length, .slice a2 R.took.length c2, .int .i64 R.gave, .int .i64 now, .bool true, .bool false]⟩ :: (⟨b, 68, #[.int .i64 R.heard, .slice au (R.said.length - R.heard) cu, .int .i64 R.took.length]⟩ :: (⟨w.heap.size + 1, 27, #[.int .i64 0, .int .i64 0, .slice none 0 0, .int .i64 0, .int .i64 0, .slice none 0 0, .int .i64 0, .int .i64 0, .bool false, .bool false]⟩ :: (⟨w.heap.size + 2, 68, #[.int .i64 0, .slice none 0 0, .int .i64 0]⟩ :: Bu))))) (by kernel_rfl) HO7.out.drew ?_
        intro W8 O8
        have hb8 := O8.has (List.mem_cons_self ..)
        have hbb := O8.has (List.mem_cons_of_mem _ (List.mem_cons_self ..))
        have y0 := hb8.cell 0
        have y1 := hb8.cell 1
        have y2 := hb8.cell 2
        have y3 := hb8.cell 3
        have y4 := hb8.cell 4
        have y5 := hb8.cell 5
        have y6 := hb8.cell 6
        have y7 := hb8.cell 7
        have y8 := hb8.cell 8
        have y9 := hb8.cell 9
        have lt8 := hb8.lt
        have p0 := hbb.cell 0
        have p1 := hbb.cell 1
        have p2 := hbb.cell 2
        have ltb := hbb.lt
        have HO8 := Lib.hid (O8.perm (L' := ⟨w.heap.size + 1, 27, #[.int .i64 0, .int .i64 0, .slice none 0 0, .int .i64 0, .int .i64 0, .slice none 0 0, .int .i64 0, .int .i64 0, .bool false, .bool false]⟩ :: (⟨w.heap.size, 27, #[.int .i64 R.most, .int .i64 R.again, .slice a1 R.said.length c1, .int .i64 R.heard, .int .i64 R.said.length, .slice a2 R.took.length c2, .int .i64 R.gave, .int .i64 now, .bool true, .bool false]⟩ :: (⟨b, 68, #[.int .i64 R.heard, .slice au (R.said.length - R.heard) cu, .int .i64 R.took.length]⟩ :: (⟨w.heap.size + 2, 68, #[.int .i64 0, .slice none 0 0, .int .i64 0]⟩ :: Bu)))) (perm_cnt fun x => by simp only [cnt_append, cnt_cons, cnt_nil] <;> omega))
        clear O8 hb8 hbb
        refine step_two (n := 4) (k := 0) (l := 1) (by kernel_rfl) (by rfl) (by rfl) (by rfl) (by rfl) ?_ ?_
        · intro K hK
          go_simp
          refine hK _ _ ?_
          clear hK K
          refine step_two (n := 3) (k := 1) (l := 2) (by kernel_rfl) (by rfl) (by rfl) (by rfl) (by rfl) ?_ ?_
          · intro K hK
            go_simp
            refine hK _ _ ?_
            clear hK K
            refine step_one (n := 2) (k := 2) (by kernel_rfl) (by rfl) (by rfl) ?_
            intro K hK
            refine wp_store_blk 27 (.tmp 4) (.tmp 65) (by rfl) (B := []) HO8.out.mem (by rfl) #[.int .i64 R.most, .int .i64 R.again, .slice a1 R.said.length c1, .int .i64 R.heard, .int .i64 R.said.length, .slice a2 R.took.length c2, .int .i64 R.gave, .int .i64 now, .bool true, .bool false] (by rfl) (by kernel_rfl) (by rfl) (by simp [Value.oneCell']) (fun W4 M4 => hK _ _ ?_)
            clear hK K
            have M4' := Lib.hid M4
            refine step_one (n := 1) (k := 3) (by kernel_rfl) (by rfl) (by rfl) ?_
            intro K hK
            refine wp_store_blk 68 (.tmp 5) (.tmp 66) (by rfl) (B := []) (M4'.out.perm (L' := ⟨w.heap.size + 2, 68, #[.int .i64 0, .slice none 0 0, .int .i64 0]⟩ :: (⟨w.heap.size + 1, 27, #[.int .i64 R.most, .int .i64 R.again, .slice a1 R.said.length c1, .int .i64 R.heard, .int .i64 R.said.length, .slice a2 R.took.length c2, .int .i64 R.gave, .int .i64 now, .bool true, .bool false]⟩ :: (⟨w.heap.size, 27, #[.int .i64 R.most, .int .i64 R.again, .slice a1 R.said.length c1, .int .i64 R.heard, .int .i64 R.said.length, .slice a2 R.took.length c2, .int .i64 R.gave, .int .i64 now, .bool true, .bool false]⟩ :: (⟨b, 68, #[.int .i64 R.heard, .slice au (R.said.length - R.heard) cu, .int .i64 R.took.length]⟩ :: Bu)))) (perm_cnt fun x => by simp only [cnt_append, cnt_cons, cnt_nil] <;> omega)) (by rfl) #[.int .i64 R.heard, .slice au (R.said.length - R.heard) cu, .int .i64 R.took.length] (by rfl) (by kernel_rfl) (by rfl) (by simp [Value.oneCell']) (fun W5 M5 => hK _ _ ?_)
            clear hK K
            have hq2 := HasBlk.mk' (M5.has _ (List.mem_cons_self ..))
            have hq1 := HasBlk.mk' (M5.has _ (List.mem_cons_of_mem _ (List.mem_cons_self ..)))
            have HM5 := Lib.hid M5
            have e0 := hq1.cell 0
            have e1 := hq1.cell 1
            have e2 := hq1.cell 2
            have e3 := hq1.cell 3
            have e4 := hq1.cell 4
            have e5 := hq1.cell 5
            have e6 := hq1.cell 6
            have e7 := hq1.cell 7
            have e8 := hq1.cell 8
            have e9 := hq1.cell 9
            have x0 := hq2.cell 0
            have x1 := hq2.cell 1
            have x2 := hq2.cell 2
            clear M4 M5 hq1 hq2
            refine last_one (k := 4) (by kernel_rfl) (by kernel_rfl) (by rfl) ?_ ?_
            · rfl
            intro K hK
            go_simp
            refine hK _ _ ?_
            clear hK K
            go_wp2
            refine bodyPost_ret (v := .tuple #[.agg #[.int .i64 R.most, .int .i64 R.again, .slice a1 R.said.length c1, .int .i64 R.heard, .int .i64 R.said.length, .slice a2 R.took.length c2, .int .i64 R.gave, .int .i64 now, .bool true, .bool false], .agg #[.int .i64 R.heard, .slice au (R.said.length - R.heard) cu, .int .i64 R.took.length], .bool true]) (by simp [results, Try.results29, go_sem, e0, e1, e2, e3, e4, e5, e6, e7, e8, e9, x0, x1, x2]) rfl ?_
            have hbn := HO7.out.new ⟨b, 68, #[.int .i64 R.heard, .slice au (R.said.length - R.heard) cu, .int .i64 R.took.length]⟩ (by simp)
            have M6 := HM5.out.drop (show w.heap.size ≤ w.heap.size + 2 by omega)
            have M7 := M6.drop (show w.heap.size ≤ w.heap.size + 1 by omega)
            have M8 := M7.drop (Nat.le_refl w.heap.size)
            have M9 := M8.drop hbn
            have hON : Ow W5 w Bu := ⟨M9, fun x hx => HO7.out.new x (by simp [hx])⟩
            have hRU := HRu.out
            first | exact ⟨_, rfl, Bu, hON, hRU⟩ | exact ⟨_, Bu, rfl, hON, hRU⟩
          · intro K hK
            refine wp_store_blk 27 (.tmp 4) (.tmp 65) (by rfl) (B := []) HO8.out.mem (by rfl) #[.int .i64 R.most, .int .i64 R.again, .slice a1 R.said.length c1, .int .i64 R.heard, .int .i64 R.said.length, .slice a2 R.took.length c2, .int .i64 R.gave, .int .i64 now, .bool true, .bool false] (by rfl) (by kernel_rfl) (by rfl) (by simp [Value.oneCell']) (fun W4 M4 => hK _ _ ?_)
            clear hK K
            have hb4 := HasBlk.mk' (M4.has ⟨b, 68, #[.int .i64 R.heard, .slice au (R.said.length - R.heard) cu, .int .i64 R.took.length]⟩ (by simp))
            have p0 := hb4.cell 0
            have p1 := hb4.cell 1
            have p2 := hb4.cell 2
            have ltb := hb4.lt
            have M4' := Lib.hid M4
            refine step_one (n := 2) (k := 1) (by kernel_rfl) (by rfl) (by rfl) ?_
            intro K hK
            go_simp
            refine hK _ _ ?_
            clear hK K
            refine step_one (n := 1) (k := 3) (by kernel_rfl) (by rfl) (by rfl) ?_
            intro K hK
            refine wp_store_blk 68 (.tmp 5) (.tmp 66) (by rfl) (B := []) (M4'.out.perm (L' := ⟨w.heap.size + 2, 68, #[.int .i64 0, .slice none 0 0, .int .i64 0]⟩ :: (⟨w.heap.size + 1, 27, #[.int .i64 R.most, .int .i64 R.again, .slice a1 R.said.length c1, .int .i64 R.heard, .int .i64 R.said.length, .slice a2 R.took.length c2, .int .i64 R.gave, .int .i64 now, .bool true, .bool false]⟩ :: (⟨w.heap.size, 27, #[.int .i64 R.most, .int .i64 R.again, .slice a1 R.said.length c1, .int .i64 R.heard, .int .i64 R.said.length, .slice a2 R.took.length c2, .int .i64 R.gave, .int .i64 now, .bool true, .bool false]⟩ :: (⟨b, 68, #[.int .i64 R.heard, .slice au (R.said.length - R.heard) cu, .int .i64 R.took.length]⟩ :: Bu)))) (perm_cnt fun x => by simp only [cnt_append, cnt_cons, cnt_nil] <;> omega)) (by rfl) #[.int .i64 R.heard, .slice au (R.said.length - R.heard) cu, .int .i64 R.took.length] (by rfl) (by kernel_rfl) (by rfl) (by simp [Value.oneCell']) (fun W5 M5 => hK _ _ ?_)
            clear hK K
            have hq2 := HasBlk.mk' (M5.has _ (List.mem_cons_self ..))
            have hq1 := HasBlk.mk' (M5.has _ (List.mem_cons_of_mem _ (List.mem_cons_self ..)))
            have HM5 := Lib.hid M5
            have e0 := hq1.cell 0
            have e1 := hq1.cell 1
            have e2 := hq1.cell 2
            have e3 := hq1.cell 3
            have e4 := hq1.cell 4
            have e5 := hq1.cell 5
            have e6 := hq1.cell 6
            have e7 := hq1.cell 7
            have e8 := hq1.cell 8
            have e9 := hq1.cell 9
            have x0 := hq2.cell 0
            have x1 := hq2.cell 1
            have x2 := hq2.cell 2
            clear M4 M5 hq1 hq2
            refine last_one (k := 4) (by kernel_rfl) (by kernel_rfl) (by rfl) ?_ ?_
            · rfl
            intro K hK
            go_simp
            refine hK _ _ ?_
            clear hK K
            go_wp2
            refine bodyPost_ret (v := .tuple #[.agg #[.int .i64 R.most, .int .i64 R.again, .slice a1 R.said.length c1, .int .i64 R.heard, .int .i64 R.said.length, .slice a2 R.took.length c2, .int .i64 R.gave, .int .i64 now, .bool true, .bool false], .agg #[.int .i64 R.heard, .slice au (R.said.length - R.heard) cu, .int .i64 R.took.length], .bool true]) (by simp [results, Try.results29, go_sem, e0, e1, e2, e3, e4, e5, e6, e7, e8, e9, x0, x1, x2]) rfl ?_
            have hbn := HO7.out.new ⟨b, 68, #[.int .i64 R.heard, .slice au (R.said.length - R.heard) cu, .int .i64 R.took.length]⟩ (by simp)
            have M6 := HM5.out.drop (show w.heap.size ≤ w.heap.size + 2 by omega)
            have M7 := M6.drop (show w.heap.size ≤ w.heap.size + 1 by omega)
            have M8 := M7.drop (Nat.le_refl w.heap.size)
            have M9 := M8.drop hbn
            have hON : Ow W5 w Bu := ⟨M9, fun x hx => HO7.out.new x (by simp [hx])⟩
            have hRU := HRu.out
            first | exact ⟨_, rfl, Bu, hON, hRU⟩ | exact ⟨_, Bu, rfl, hON, hRU⟩
        · intro K hK
          go_simp
          refine hK _ _ ?_
          clear hK K
          refine step_one (n := 3) (k := 0) (by kernel_rfl) (by rfl) (by rfl) ?_
          intro K hK
          go_simp
          refine hK _ _ ?_
          clear hK K
          refine step_one (n := 2) (k := 2) (by kernel_rfl) (by rfl) (by rfl) ?_
          intro K hK
          refine wp_store_blk 27 (.tmp 4) (.tmp 65) (by rfl) (B := []) HO8.out.mem (by rfl) #[.int .i64 R.most, .int .i64 R.again, .slice a1 R.said.length c1, .int .i64 R.heard, .int .i64 R.said.length, .slice a2 R.took.length c2, .int .i64 R.gave, .int .i64 now, .bool true, .bool false] (by rfl) (by kernel_rfl) (by rfl) (by simp [Value.oneCell']) (fun W4 M4 => hK _ _ ?_)
          clear hK K
          have M4' := Lib.hid M4
          refine step_one (n := 1) (k := 3) (by kernel_rfl) (by rfl) (by rfl) ?_
          intro K hK
          refine wp_store_blk 68 (.tmp 5) (.tmp 66) (by rfl) (B := []) (M4'.out.perm (L' := ⟨w.heap.size + 2, 68, #[.int .i64 0, .slice none 0 0, .int .i64 0]⟩ :: (⟨w.heap.size + 1, 27, #[.int .i64 R.most, .int .i64 R.again, .slice a1 R.said.length c1, .int .i64 R.heard, .int .i64 R.said.length, .slice a2 R.took.length c2, .int .i64 R.gave, .int .i64 now, .bool true, .bool false]⟩ :: (⟨w.heap.size, 27, #[.int .i64 R.most, .int .i64 R.again, .slice a1 R.said.length c1, .int .i64 R.heard, .int .i64 R.said.length, .slice a2 R.took.length c2, .int .i64 R.gave, .int .i64 now, .bool true, .bool false]⟩ :: (⟨b, 68, #[.int .i64 R.heard, .slice au (R.said.length - R.heard) cu, .int .i64 R.took.length]⟩ :: Bu)))) (perm_cnt fun x => by simp only [cnt_append, cnt_cons, cnt_nil] <;> omega)) (by rfl) #[.int .i64 R.heard, .slice au (R.said.length - R.heard) cu, .int .i64 R.took.length] (by rfl) (by kernel_rfl) (by rfl) (by simp [Value.oneCell']) (fun W5 M5 => hK _ _ ?_)
          clear hK K
          have hq2 := HasBlk.mk' (M5.has _ (List.mem_cons_self ..))
          have hq1 := HasBlk.mk' (M5.has _ (List.mem_cons_of_mem _ (List.mem_cons_self ..)))
          have HM5 := Lib.hid M5
          have e0 := hq1.cell 0
          have e1 := hq1.cell 1
          have e2 := hq1.cell 2
          have e3 := hq1.cell 3
          have e4 := hq1.cell 4
          have e5 := hq1.cell 5
          have e6 := hq1.cell 6
          have e7 := hq1.cell 7
          have e8 := hq1.cell 8
          have e9 := hq1.cell 9
          have x0 := hq2.cell 0
          have x1 := hq2.cell 1
          have x2 := hq2.cell 2
          clear M4 M5 hq1 hq2
          refine last_one (k := 4) (by kernel_rfl) (by kernel_rfl) (by rfl) ?_ ?_
          · rfl
          intro K hK
          go_simp
          refine hK _ _ ?_
          clear hK K
          go_wp2
          refine bodyPost_ret (v := .tuple #[.agg #[.int .i64 R.most, .int .i64 R.again, .slice a1 R.said.length c1, .int .i64 R.heard, .int .i64 R.said.length, .slice a2 R.took.length c2, .int .i64 R.gave, .int .i64 now, .bool true, .bool false], .agg #[.int .i64 R.heard, .slice au (R.said.length - R.heard) cu, .int .i64 R.took.length], .bool true]) (by simp [results, Try.results29, go_sem, e0, e1, e2, e3, e4, e5, e6, e7, e8, e9, x0, x1, x2]) rfl ?_
          have hbn := HO7.out.new ⟨b, 68, #[.int .i64 R.heard, .slice au (R.said.length - R.heard) cu, .int .i64 R.took.length]⟩ (by simp)
          have M6 := HM5.out.drop (show w.heap.size ≤ w.heap.size + 2 by omega)
          have M7 := M6.drop (show w.heap.size ≤ w.heap.size + 1 by omega)
          have M8 := M7.drop (Nat.le_refl w.heap.size)
          have M9 := M8.drop hbn
          have hON : Ow W5 w Bu := ⟨M9, fun x hx => HO7.out.new x (by simp [hx])⟩
          have hRU := HRu.out
          first | exact ⟨_, rfl, Bu, hON, hRU⟩ | exact ⟨_, Bu, rfl, hON, hRU⟩
    · have e2 : decide ((R.heard : Int) < (R.said.length : Int)) = false := decide_eq_false (by omega)
      have how : R.owes = true := by simpa [k1, k2] using hd
      rw [how]
      clear hd how
      go_enter Try.func29, Try.ntmps29
      go_wp2_with fail
      refine wp_opq (fun W => Ow W w [⟨w.heap.size + 2, 68, #[.int .i64 0, .slice none 0 0, .int .i64 0]⟩, ⟨w.heap.size + 1, 27, #[.int .i64 0, .int .i64 0, .slice none 0 0, .int .i64 0, .int .i64 0, .slice none 0 0, .int .i64 0, .int .i64 0, .bool false, .bool false]⟩, ⟨w.heap.size, 27, #[.int .i64 R.most, .int .i64 R.again, .slice a1 R.said.length c1, .int .i64 R.heard, .int .i64 R.out, .slice a2 R.took.length c2, .int .i64 R.gave, .int .i64 R.last, .bool R.went, .bool true]⟩]) ((((Ow.start w).key #[.int .i64 R.most, .int .i64 R.again, .slice a1 R.said.length c1, .int .i64 R.heard, .int .i64 R.out, .slice a2 R.took.length c2, .int .i64 R.gave, .int .i64 R.last, .bool R.went, .bool true] 27 w.heap.size rfl).key #[.int .i64 0, .int .i64 0, .slice none 0 0, .int .i64 0, .int .i64 0, .slice none 0 0, .int .i64 0, .int .i64 0, .bool false, .bool false] 27 (w.heap.size + 1) (by simp)).key #[.int .i64 0, .slice none 0 0, .int .i64 0] 68 (w.heap.size + 2) (by simp)) ?_
      intro W1 O1
      have HO1 := Lib.hid O1
      have hb0 := O1.has (b := w.heap.size) (t := 27) (cs := #[.int .i64 R.most, .int .i64 R.again, .slice a1 R.said.length c1, .int .i64 R.heard, .int .i64 R.out, .slice a2 R.took.length c2, .int .i64 R.gave, .int .i64 R.last, .bool R.went, .bool true]) (by simp)
      have k2 := hb0.cell 2
      have k3 := hb0.cell 3
      have k5 := hb0.cell 5
      have lt1 := hb0.lt
      have HAC1 : Hid (∀ ad, A = some ad → ∀ j u, (us.drop R.heard)[j]? = some u → W1.cell? (ad.add j) = some u) := fun ad had j u hj => HAC.out W1 O1.below ad had j u hj
      have HAO1 : Hid (∀ ad, A = some ad → us.drop R.heard ≠ [] → ad.block < W1.heap.size) := fun ad had hne => Nat.lt_of_lt_of_le (HAO.out ad had hne) O1.mem.size
      clear O1 hb0
      refine wp_region_rc 14 1 (by kernel_rfl) (by kernel_rfl) (by kernel_rfl) (by kernel_rfl) ?_
      simp only [List.take_succ_cons, List.take_zero]
      repeat (first
        | (refine B_skip ?_ ?_; (· rfl); (try simp only [Act.put, List.setIfInBounds_toArray, List.set_cons_zero, List.set_cons_succ]))
        | (refine B_move rfl ?_ ?_; (· rfl); (try simp only [Act.eval, Act.put, Array.getD_eq_getD_getElem?, List.getElem?_toArray, List.getElem?_cons_succ, List.getElem?_cons_zero, Option.getD_some, List.setIfInBounds_toArray, List.set_cons_zero, List.set_cons_succ]))
        | (refine B_plain ?_ ?_; (· rfl); intro K hK; go_big_quiet_op; with_reducible refine hK _ ?_; clear hK K)
        | (refine B_newsl0 elt_msg rfl rfl ?_ ?_; (· rfl))
        | (refine B_appendL (s := 46) rfl rfl elt_msg (by omega) rfl A (R.said.length - R.heard) (c1 - R.heard) (us.drop R.heard) (fun u => rfl) hdl HAN.out HAC1.out HAO1.out HD1.out (by omega) ?_ ?_; (· rfl))
        | (refine B_readR (s := 52) rfl rfl (fun u => .agg #[.int .i64 R.heard, u, .int .i64 R.took.length]) (fun v W => ∃ u, v = .agg #[.int .i64 R.heard, u, .int .i64 R.took.length] ∧ RowOf 34 W1.heap.size (us.drop R.heard) u W) (fun v w1 w2 hx hv => by obtain ⟨u, e, h⟩ := hv; exact ⟨u, e, stays_rowOf _ _ _ u w1 w2 hx h⟩) (fun u W hu => ⟨u, rfl, hu⟩) ?_ (fun u W hu => ?_) ?_; (· rfl); (· (obtain ⟨ax, cx, Bx, rfl, -, -⟩ := hu; kernel_rfl)))
        | (refine B_new (t := 68) (z := .agg #[.int .i64 0, .slice none 0 0, .int .i64 0]) rfl rfl (by kernel_rfl) ?_ ?_; (· rfl)))
      refine B_nil ?_ rfl ?_ ?_
      · kernel_rfl
      · rfl
      rintro _ ⟨⟨g4, d4⟩, rfl⟩
      simp only [fin, Act.put, List.setIfInBounds_toArray, List.set_cons_zero, List.set_cons_succ]
      rintro _ ⟨b, rfl, hb1, hb2⟩ _ ⟨u, rfl, hu⟩ u52 - u46 -
      obtain ⟨au, cu, Bu, rfl, Ru, hBu⟩ := hu
      have O4 := HO1.out.found (B := ⟨b, 68, #[.int .i64 0, .slice none 0 0, .int .i64 0]⟩ :: Bu) ⟨⟨g4, d4⟩, rfl⟩ (List.pairwise_cons.2 ⟨fun y hy => by
        refine HasBlk.type_ne (show HasBlk _ b 68 #[.int .i64 0, .slice none 0 0, .int .i64 0] from hb2) (hBu y hy).2 ?_
        rw [Ru.ty y hy]; decide, Ru.apart⟩) (fun y hy => by
        rcases List.mem_cons.1 hy with rfl | hy
        · exact ⟨hb1, hb2⟩
        · exact hBu y hy)
      rw [hdl]
      rw [hdl] at Ru
      refine last_one (k := 14) (by kernel_rfl) (by kernel_rfl) (by rfl) ?_ ?_
      · rfl
      intro K hK
      refine wp_store_blk 68 (.tmp 8) (.tmp 56) (by rfl) (B := []) O4.mem (by rfl) #[.int .i64 R.heard, .slice au (R.said.length - R.heard) cu, .int .i64 R.took.length] (by rfl) (by kernel_rfl) (by rfl) (by simp [Value.oneCell']) (fun W2 M2 => hK _ _ ?_)
      clear hK K
      have O5 : Ow W2 w (⟨b, 68, #[.int .i64 R.heard, .slice au (R.said.length - R.heard) cu, .int .i64 R.took.length]⟩ :: (Bu ++ [⟨w.heap.size + 2, 68, #[.int .i64 0, .slice none 0 0, .int .i64 0]⟩, ⟨w.heap.size + 1, 27, #[.int .i64 0, .int .i64 0, .slice none 0 0, .int .i64 0, .int .i64 0, .slice none 0 0, .int .i64 0, .int .i64 0, .bool false, .bool false]⟩, ⟨w.heap.size, 27, #[.int .i64 R.most, .int .i64 R.again, .slice a1 R.said.length c1, .int .i64 R.heard, .int .i64 R.out, .slice a2 R.took.length c2, .int .i64 R.gave, .int .i64 R.last, .bool R.went, .bool true]⟩])) := ⟨M2, New.cons (O4.new ⟨b, 68, #[.int .i64 0, .slice none 0 0, .int .i64 0]⟩ (by simp)) fun x hx => O4.new x (List.mem_cons_of_mem _ hx)⟩
      have HO6 := Lib.hid (O5.perm (L' := ⟨w.heap.size, 27, #[.int .i64 R.most, .int .i64 R.again, .slice a1 R.said.length c1, .int .i64 R.heard, .int .i64 R.out, .slice a2 R.took.length c2, .int .i64 R.gave, .int .i64 R.last, .bool R.went, .bool true]⟩ :: (⟨b, 68, #[.int .i64 R.heard, .slice au (R.said.length - R.heard) cu, .int .i64 R.took.length]⟩ :: (⟨w.heap.size + 1, 27, #[.int .i64 0, .int .i64 0, .slice none 0 0, .int .i64 0, .int .i64 0, .slice none 0 0, .int .i64 0, .int .i64 0, .bool false, .bool false]⟩ :: (⟨w.heap.size + 2, 68, #[.int .i64 0, .slice none 0 0, .int .i64 0]⟩ :: Bu)))) (perm_cnt fun x => by simp only [cnt_append, cnt_cons, cnt_nil] <;> omega))
      have HRu := Lib.hid Ru
      have hb0 := HO6.out.has (List.mem_cons_self ..)
      have g0_ := hb0.cell 0
      have g1_ := hb0.cell 1
      have g2_ := hb0.cell 2
      have g3_ := hb0.cell 3
      have g4_ := hb0.cell 4
      have g5_ := hb0.cell 5
      have g6_ := hb0.cell 6
      have g7_ := hb0.cell 7
      have g8_ := hb0.cell 8
      have g9_ := hb0.cell 9
      have f4 := hb0.frozen 4
      have f7 := hb0.frozen 7
      have f8 := hb0.frozen 8
      have f9 := hb0.frozen 9
      have lt2 := hb0.lt
      have hne : b ≠ w.heap.size := by omega
      have hne2 : w.heap.size ≠ b := by omega
      clear O4 O5 M2 hb0 hb1 hb2 hBu Ru k2 k3 k5 lt1
      go_wp2
      refine wp_opq (fun W => Ow W w (⟨w.heap.size, 27, #[.int .i64 R.most, .int .i64 R.again, .slice a1 R.said.length c1, .int .i64 R.heard, .int .i64 R.said.length, .slice a2 R.took.length c2, .int .i64 R.gave, .int .i64 now, .bool true, .bool false]⟩ :: (⟨b, 68, #[.int .i64 R.heard, .slice au (R.said.length - R.heard) cu, .int .i64 R.took.length]⟩ :: (⟨w.heap.size + 1, 27, #[.int .i64 0, .int .i64 0, .slice none 0 0, .int .i64 0, .int .i64 0, .slice none 0 0, .int .i64 0, .int .i64 0, .bool false, .bool false]⟩ :: (⟨w.heap.size + 2, 68, #[.int .i64 0, .slice none 0 0, .int .i64 0]⟩ :: Bu))))) (((((HO6.out.set 4 _).set 7 _).set 8 _).set 9 _).as (by simp)) ?_
      intro W3 O7
      have HO7 := Lib.hid O7
      have hb0 := O7.has (List.mem_cons_self ..)
      have hbb := O7.has (List.mem_cons_of_mem _ (List.mem_cons_self ..))
      have d0 := hb0.cell 0
      have d1 := hb0.cell 1
      have d2 := hb0.cell 2
      have d3 := hb0.cell 3
      have d4 := hb0.cell 4
      have d5 := hb0.cell 5
      have d6 := hb0.cell 6
      have d7 := hb0.cell 7
      have d8 := hb0.cell 8
      have d9 := hb0.cell 9
      have lt3 := hb0.lt
      have p0 := hbb.cell 0
      have p1 := hbb.cell 1
      have p2 := hbb.cell 2
      have ltb := hbb.lt
      clear O7 hb0 hbb
      refine wp_region_op (fun W => Ow W w (⟨w.heap.size, 27, #[.int .i64 R.most, .int .i64 R.again, .slice a1 R.said.length c1, .int .i64 R.heard, .int .i64 R.said.length, .slice a2 R.took.length c2, .int .i64 R.gave, .int .i64 now, .bool true, .bool false]⟩ :: (⟨b, 68, #[.int .i64 R.heard, .slice au (R.said.length - R.heard) cu, .int .i64 R.took.length]⟩ :: (⟨w.heap.size + 1, 27, #[.int .i64 0, .int .i64 0, .slice none 0 0, .int .i64 0, .int .i64 0, .slice none 0 0, .int .i64 0, .int .i64 0, .bool false, .bool false]⟩ :: (⟨w.heap.size + 2, 68, #[.int .i64 0, .slice none 0 0, .int .i64 0]⟩ :: Bu))))) (by kernel_rfl) HO7.out.drew ?_
      intro W8 O8
      have hb8 := O8.has (List.mem_cons_self ..)
      have hbb := O8.has (List.mem_cons_of_mem _ (List.mem_cons_self ..))
      have y0 := hb8.cell 0
      have y1 := hb8.cell 1
      have y2 := hb8.cell 2
      have y3 := hb8.cell 3
      have y4 := hb8.cell 4
      have y5 := hb8.cell 5
      have y6 := hb8.cell 6
      have y7 := hb8.cell 7
      have y8 := hb8.cell 8
      have y9 := hb8.cell 9
      have lt8 := hb8.lt
      have p0 := hbb.cell 0
      have p1 := hbb.cell 1
      have p2 := hbb.cell 2
      have ltb := hbb.lt
      have HO8 := Lib.hid (O8.perm (L' := ⟨w.heap.size + 1, 27, #[.int .i64 0, .int .i64 0, .slice none 0 0, .int .i64 0, .int .i64 0, .slice none 0 0, .int .i64 0, .int .i64 0, .bool false, .bool false]⟩ :: (⟨w.heap.size, 27, #[.int .i64 R.most, .int .i64 R.again, .slice a1 R.said.length c1, .int .i64 R.heard, .int .i64 R.said.length, .slice a2 R.took.length c2, .int .i64 R.gave, .int .i64 now, .bool true, .bool false]⟩ :: (⟨b, 68, #[.int .i64 R.heard, .slice au (R.said.length - R.heard) cu, .int .i64 R.took.length]⟩ :: (⟨w.heap.size + 2, 68, #[.int .i64 0, .slice none 0 0, .int .i64 0]⟩ :: Bu)))) (perm_cnt fun x => by simp only [cnt_append, cnt_cons, cnt_nil] <;> omega))
      clear O8 hb8 hbb
      refine step_two (n := 4) (k := 0) (l := 1) (by kernel_rfl) (by rfl) (by rfl) (by rfl) (by rfl) ?_ ?_
      · intro K hK
        go_simp
        refine hK _ _ ?_
        clear hK K
        refine step_two (n := 3) (k := 1) (l := 2) (by kernel_rfl) (by rfl) (by rfl) (by rfl) (by rfl) ?_ ?_
        · intro K hK
          go_simp
          refine hK _ _ ?_
          clear hK K
          refine step_one (n := 2) (k := 2) (by kernel_rfl) (by rfl) (by rfl) ?_
          intro K hK
          refine wp_store_blk 27 (.tmp 4) (.tmp 65) (by rfl) (B := []) HO8.out.mem (by rfl) #[.int .i64 R.most, .int .i64 R.again, .slice a1 R.said.length c1, .int .i64 R.heard, .int .i64 R.said.length, .slice a2 R.took.length c2, .int .i64 R.gave, .int .i64 now, .bool true, .bool false] (by rfl) (by kernel_rfl) (by rfl) (by simp [Value.oneCell']) (fun W4 M4 => hK _ _ ?_)
          clear hK K
          have M4' := Lib.hid M4
          refine step_one (n := 1) (k := 3) (by kernel_rfl) (by rfl) (by rfl) ?_
          intro K hK
          refine wp_store_blk 68 (.tmp 5) (.tmp 66) (by rfl) (B := []) (M4'.out.perm (L' := ⟨w.heap.size + 2, 68, #[.int .i64 0, .slice none 0 0, .int .i64 0]⟩ :: (⟨w.heap.size + 1, 27, #[.int .i64 R.most, .int .i64 R.again, .slice a1 R.said.length c1, .int .i64 R.heard, .int .i64 R.said.length, .slice a2 R.took.length c2, .int .i64 R.gave, .int .i64 now, .bool true, .bool false]⟩ :: (⟨w.heap.size, 27, #[.int .i64 R.most, .int .i64 R.again, .slice a1 R.said.length c1, .int .i64 R.heard, .int .i64 R.said.length, .slice a2 R.took.length c2, .int .i64 R.gave, .int .i64 now, .bool true, .bool false]⟩ :: (⟨b, 68, #[.int .i64 R.heard, .slice au (R.said.length - R.heard) cu, .int .i64 R.took.length]⟩ :: Bu)))) (perm_cnt fun x => by simp only [cnt_append, cnt_cons, cnt_nil] <;> omega)) (by rfl) #[.int .i64 R.heard, .slice au (R.said.length - R.heard) cu, .int .i64 R.took.length] (by rfl) (by kernel_rfl) (by rfl) (by simp [Value.oneCell']) (fun W5 M5 => hK _ _ ?_)
          clear hK K
          have hq2 := HasBlk.mk' (M5.has _ (List.mem_cons_self ..))
          have hq1 := HasBlk.mk' (M5.has _ (List.mem_cons_of_mem _ (List.mem_cons_self ..)))
          have HM5 := Lib.hid M5
          have e0 := hq1.cell 0
          have e1 := hq1.cell 1
          have e2 := hq1.cell 2
          have e3 := hq1.cell 3
          have e4 := hq1.cell 4
          have e5 := hq1.cell 5
          have e6 := hq1.cell 6
          have e7 := hq1.cell 7
          have e8 := hq1.cell 8
          have e9 := hq1.cell 9
          have x0 := hq2.cell 0
          have x1 := hq2.cell 1
          have x2 := hq2.cell 2
          clear M4 M5 hq1 hq2
          refine last_one (k := 4) (by kernel_rfl) (by kernel_rfl) (by rfl) ?_ ?_
          · rfl
          intro K hK
          go_simp
          refine hK _ _ ?_
          clear hK K
          go_wp2
          refine bodyPost_ret (v := .tuple #[.agg #[.int .i64 R.most, .int .i64 R.again, .slice a1 R.said.length c1, .int .i64 R.heard, .int .i64 R.said.length, .slice a2 R.took.length c2, .int .i64 R.gave, .int .i64 now, .bool true, .bool false], .agg #[.int .i64 R.heard, .slice au (R.said.length - R.heard) cu, .int .i64 R.took.length], .bool true]) (by simp [results, Try.results29, go_sem, e0, e1, e2, e3, e4, e5, e6, e7, e8, e9, x0, x1, x2]) rfl ?_
          have hbn := HO7.out.new ⟨b, 68, #[.int .i64 R.heard, .slice au (R.said.length - R.heard) cu, .int .i64 R.took.length]⟩ (by simp)
          have M6 := HM5.out.drop (show w.heap.size ≤ w.heap.size + 2 by omega)
          have M7 := M6.drop (show w.heap.size ≤ w.heap.size + 1 by omega)
          have M8 := M7.drop (Nat.le_refl w.heap.size)
          have M9 := M8.drop hbn
          have hON : Ow W5 w Bu := ⟨M9, fun x hx => HO7.out.new x (by simp [hx])⟩
          have hRU := HRu.out
          first | exact ⟨_, rfl, Bu, hON, hRU⟩ | exact ⟨_, Bu, rfl, hON, hRU⟩
        · intro K hK
          refine wp_store_blk 27 (.tmp 4) (.tmp 65) (by rfl) (B := []) HO8.out.mem (by rfl) #[.int .i64 R.most, .int .i64 R.again, .slice a1 R.said.length c1, .int .i64 R.heard, .int .i64 R.said.length, .slice a2 R.took.length c2, .int .i64 R.gave, .int .i64 now, .bool true, .bool false] (by rfl) (by kernel_rfl) (by rfl) (by simp [Value.oneCell']) (fun W4 M4 => hK _ _ ?_)
          clear hK K
          have hb4 := HasBlk.mk' (M4.has ⟨b, 68, #[.int .i64 R.heard, .slice au (R.said.length - R.heard) cu, .int .i64 R.took.length]⟩ (by simp))
          have p0 := hb4.cell 0
          have p1 := hb4.cell 1
          have p2 := hb4.cell 2
          have ltb := hb4.lt
          have M4' := Lib.hid M4
          refine step_one (n := 2) (k := 1) (by kernel_rfl) (by rfl) (by rfl) ?_
          intro K hK
          go_simp
          refine hK _ _ ?_
          clear hK K
          refine step_one (n := 1) (k := 3) (by kernel_rfl) (by rfl) (by rfl) ?_
          intro K hK
          refine wp_store_blk 68 (.tmp 5) (.tmp 66) (by rfl) (B := []) (M4'.out.perm (L' := ⟨w.heap.size + 2, 68, #[.int .i64 0, .slice none 0 0, .int .i64 0]⟩ :: (⟨w.heap.size + 1, 27, #[.int .i64 R.most, .int .i64 R.again, .slice a1 R.said.length c1, .int .i64 R.heard, .int .i64 R.said.length, .slice a2 R.took.length c2, .int .i64 R.gave, .int .i64 now, .bool true, .bool false]⟩ :: (⟨w.heap.size, 27, #[.int .i64 R.most, .int .i64 R.again, .slice a1 R.said.length c1, .int .i64 R.heard, .int .i64 R.said.length, .slice a2 R.took.length c2, .int .i64 R.gave, .int .i64 now, .bool true, .bool false]⟩ :: (⟨b, 68, #[.int .i64 R.heard, .slice au (R.said.length - R.heard) cu, .int .i64 R.took.length]⟩ :: Bu)))) (perm_cnt fun x => by simp only [cnt_append, cnt_cons, cnt_nil] <;> omega)) (by rfl) #[.int .i64 R.heard, .slice au (R.said.length - R.heard) cu, .int .i64 R.took.length] (by rfl) (by kernel_rfl) (by rfl) (by simp [Value.oneCell']) (fun W5 M5 => hK _ _ ?_)
          clear hK K
          have hq2 := HasBlk.mk' (M5.has _ (List.mem_cons_self ..))
          have hq1 := HasBlk.mk' (M5.has _ (List.mem_cons_of_mem _ (List.mem_cons_self ..)))
          have HM5 := Lib.hid M5
          have e0 := hq1.cell 0
          have e1 := hq1.cell 1
          have e2 := hq1.cell 2
          have e3 := hq1.cell 3
          have e4 := hq1.cell 4
          have e5 := hq1.cell 5
          have e6 := hq1.cell 6
          have e7 := hq1.cell 7
          have e8 := hq1.cell 8
          have e9 := hq1.cell 9
          have x0 := hq2.cell 0
          have x1 := hq2.cell 1
          have x2 := hq2.cell 2
          clear M4 M5 hq1 hq2
          refine last_one (k := 4) (by kernel_rfl) (by kernel_rfl) (by rfl) ?_ ?_
          · rfl
          intro K hK
          go_simp
          refine hK _ _ ?_
          clear hK K
          go_wp2
          refine bodyPost_ret (v := .tuple #[.agg #[.int .i64 R.most, .int .i64 R.again, .slice a1 R.said.length c1, .int .i64 R.heard, .int .i64 R.said.length, .slice a2 R.took.length c2, .int .i64 R.gave, .int .i64 now, .bool true, .bool false], .agg #[.int .i64 R.heard, .slice au (R.said.length - R.heard) cu, .int .i64 R.took.length], .bool true]) (by simp [results, Try.results29, go_sem, e0, e1, e2, e3, e4, e5, e6, e7, e8, e9, x0, x1, x2]) rfl ?_
          have hbn := HO7.out.new ⟨b, 68, #[.int .i64 R.heard, .slice au (R.said.length - R.heard) cu, .int .i64 R.took.length]⟩ (by simp)
          have M6 := HM5.out.drop (show w.heap.size ≤ w.heap.size + 2 by omega)
          have M7 := M6.drop (show w.heap.size ≤ w.heap.size + 1 by omega)
          have M8 := M7.drop (Nat.le_refl w.heap.size)
          have M9 := M8.drop hbn
          have hON : Ow W5 w Bu := ⟨M9, fun x hx => HO7.out.new x (by simp [hx])⟩
          have hRU := HRu.out
          first | exact ⟨_, rfl, Bu, hON, hRU⟩ | exact ⟨_, Bu, rfl, hON, hRU⟩
      · intro K hK
        go_simp
        refine hK _ _ ?_
        clear hK K
        refine step_one (n := 3) (k := 0) (by kernel_rfl) (by rfl) (by rfl) ?_
        intro K hK
        go_simp
        refine hK _ _ ?_
        clear hK K
        refine step_one (n := 2) (k := 2) (by kernel_rfl) (by rfl) (by rfl) ?_
        intro K hK
        refine wp_store_blk 27 (.tmp 4) (.tmp 65) (by rfl) (B := []) HO8.out.mem (by rfl) #[.int .i64 R.most, .int .i64 R.again, .slice a1 R.said.length c1, .int .i64 R.heard, .int .i64 R.said.length, .slice a2 R.took.length c2, .int .i64 R.gave, .int .i64 now, .bool true, .bool false] (by rfl) (by kernel_rfl) (by rfl) (by simp [Value.oneCell']) (fun W4 M4 => hK _ _ ?_)
        clear hK K
        have M4' := Lib.hid M4
        refine step_one (n := 1) (k := 3) (by kernel_rfl) (by rfl) (by rfl) ?_
        intro K hK
        refine wp_store_blk 68 (.tmp 5) (.tmp 66) (by rfl) (B := []) (M4'.out.perm (L' := ⟨w.heap.size + 2, 68, #[.int .i64 0, .slice none 0 0, .int .i64 0]⟩ :: (⟨w.heap.size + 1, 27, #[.int .i64 R.most, .int .i64 R.again, .slice a1 R.said.length c1, .int .i64 R.heard, .int .i64 R.said.length, .slice a2 R.took.length c2, .int .i64 R.gave, .int .i64 now, .bool true, .bool false]⟩ :: (⟨w.heap.size, 27, #[.int .i64 R.most, .int .i64 R.again, .slice a1 R.said.length c1, .int .i64 R.heard, .int .i64 R.said.length, .slice a2 R.took.length c2, .int .i64 R.gave, .int .i64 now, .bool true, .bool false]⟩ :: (⟨b, 68, #[.int .i64 R.heard, .slice au (R.said.length - R.heard) cu, .int .i64 R.took.length]⟩ :: Bu)))) (perm_cnt fun x => by simp only [cnt_append, cnt_cons, cnt_nil] <;> omega)) (by rfl) #[.int .i64 R.heard, .slice au (R.said.length - R.heard) cu, .int .i64 R.took.length] (by rfl) (by kernel_rfl) (by rfl) (by simp [Value.oneCell']) (fun W5 M5 => hK _ _ ?_)
        clear hK K
        have hq2 := HasBlk.mk' (M5.has _ (List.mem_cons_self ..))
        have hq1 := HasBlk.mk' (M5.has _ (List.mem_cons_of_mem _ (List.mem_cons_self ..)))
        have HM5 := Lib.hid M5
        have e0 := hq1.cell 0
        have e1 := hq1.cell 1
        have e2 := hq1.cell 2
        have e3 := hq1.cell 3
        have e4 := hq1.cell 4
        have e5 := hq1.cell 5
        have e6 := hq1.cell 6
        have e7 := hq1.cell 7
        have e8 := hq1.cell 8
        have e9 := hq1.cell 9
        have x0 := hq2.cell 0
        have x1 := hq2.cell 1
        have x2 := hq2.cell 2
        clear M4 M5 hq1 hq2
        refine last_one (k := 4) (by kernel_rfl) (by kernel_rfl) (by rfl) ?_ ?_
        · rfl
        intro K hK
        go_simp
        refine hK _ _ ?_
        clear hK K
        go_wp2
        refine bodyPost_ret (v := .tuple #[.agg #[.int .i64 R.most, .int .i64 R.again, .slice a1 R.said.length c1, .int .i64 R.heard, .int .i64 R.said.length, .slice a2 R.took.length c2, .int .i64 R.gave, .int .i64 now, .bool true, .bool false], .agg #[.int .i64 R.heard, .slice au (R.said.length - R.heard) cu, .int .i64 R.took.length], .bool true]) (by simp [results, Try.results29, go_sem, e0, e1, e2, e3, e4, e5, e6, e7, e8, e9, x0, x1, x2]) rfl ?_
        have hbn := HO7.out.new ⟨b, 68, #[.int .i64 R.heard, .slice au (R.said.length - R.heard) cu, .int .i64 R.took.length]⟩ (by simp)
        have M6 := HM5.out.drop (show w.heap.size ≤ w.heap.size + 2 by omega)
        have M7 := M6.drop (show w.heap.size ≤ w.heap.size + 1 by omega)
        have M8 := M7.drop (Nat.le_refl w.heap.size)
        have M9 := M8.drop hbn
        have hON : Ow W5 w Bu := ⟨M9, fun x hx => HO7.out.new x (by simp [hx])⟩
        have hRU := HRu.out
        first | exact ⟨_, rfl, Bu, hON, hRU⟩ | exact ⟨_, Bu, rfl, hON, hRU⟩

end Go.Proofs.Ytgjodjkmefdilaa

