/- talk: contracts of the reference's Got and Say. -/
import Derived.Test.YtgjodjkmefdilaaTpl
import Derived.Lib.SliceRun
namespace Go.Proofs.Ytgjodjkmefdilaa
set_option linter.unusedSimpArgs false
set_option linter.unusedVariables false
open Go.RowKit

/-- The reference's Talker, as a value. -/
def rcs (R : RS) (vs vt : Value) : Array Value := #[.int .i64 R.most, .int .i64 R.again, vs, .int .i64 R.heard, .int .i64 R.out, vt, .int .i64 R.gave, .int .i64 R.last, .bool R.went, .bool R.owes]
/-- A reference's Talker that may be. -/
structure RW (b : Nat) (R : RS) : Prop where
  most : R.most ≤ 64
  again : R.again ≤ 1000
  said : R.said.length ≤ b
  le : R.heard ≤ R.said.length
  out : R.out ≤ R.said.length
  took : R.took.length ≤ b
  gave : R.gave ≤ R.took.length
  last : R.last ≤ 4611686018427387904
/-- Its messages lie where X tells. -/
def RM (w0 : World) (X : List Blk) (R : RS) (vs vt : Value) : Prop := MsgL w0 X vs R.said ∧ MsgL w0 X vt R.took
theorem RM.mono {w0 : World} {X Y : List Blk} {R : RS} {vs vt : Value} (h : RM w0 X R vs vt) (s : Sub X Y) : RM w0 Y R vs vt := ⟨h.1.mono s, h.2.mono s⟩
/-- The rest of a list of messages. -/
theorem MsgL.rest {w0 : World} {X : List Blk} {ao : Option Addr} {n cap : Nat} {ms : List (List UInt8)} (h : MsgL w0 X (.slice ao n cap) ms) (k : Nat) (hk : k ≤ ms.length) (ao' : Option Addr) (hao : ao' = if cap = k then ao else ao.map fun a => a.add k) : MsgL w0 X (.slice ao' (n - k) (cap - k)) (ms.drop k) := by
  have hn : n = ms.length := h.len
  subst hn
  obtain ⟨vs, hs, hm⟩ := h
  obtain ⟨a1, c1, e1, hcap, hnil⟩ := hs.slice
  cases e1
  have hp := MsgL.part (c := cap - k) ⟨vs, hs, hm⟩ k (ms.length - k) (by omega) (by omega) ao' (fun ad had hl => by
    rw [hao, if_neg (by omega), had]; rfl) (fun h0 => by
    by_cases hck : cap = k
    · rw [if_pos hck] at hao
      omega
    · rw [if_neg hck] at hao
      cases ao with
      | none => have := hnil rfl; omega
      | some ad => rw [hao] at h0; cases h0)
  rwa [List.take_of_length_le (by simp)] at hp

set_option maxRecDepth 100000 in
set_option maxHeartbeats 2000000 in
theorem rGot_to (R : RS) (vs vt : Value) (w w0 : World) (X Y : List Blk) (O : Ow w w0 Y) (hX : Sub X Y) (hM : RM w0 X R vs vt) (hR : RW 1000000 R) :
    Calls Try.prog 33 #[.agg (rcs R vs vt)] w fun e w' => ∃ u, e = .returned (.tuple #[.agg (rcs (rGot R) vs vt), u]) ∧ Ow w' w0 Y ∧ MsgL w0 X u (R.took.drop R.gave) := by
  obtain ⟨a1, c1, rfl⟩ := hM.1.slice
  obtain ⟨a2, c2, rfl⟩ := hM.2.slice
  have hg := hR.gave
  have ht := hR.took
  obtain ⟨h1, h2⟩ := hM
  have hc2 : R.took.length ≤ c2 := by
    obtain ⟨x, hx, -⟩ := h2
    obtain ⟨a, c, e, h, -⟩ := hx.slice
    cases e; exact h
  have H2 := Lib.hid h2
  have HO := Lib.hid O
  clear h1 h2 O
  obtain ⟨A, hA⟩ : ∃ A, (if c2 = R.gave then a2 else Option.map (fun x => x.add R.gave) a2) = A := ⟨_, rfl⟩
  have HU : Hid (MsgL w0 X (.slice A (R.took.length - R.gave) (c2 - R.gave)) (R.took.drop R.gave)) := H2.out.rest R.gave hg A hA.symm
  simp only [rcs, rGot]
  go_enter Try.func33, Try.ntmps33
  go_wp2_with fail
  refine bodyPost_ret (v := .tuple #[.agg #[.int .i64 R.most, .int .i64 R.again, .slice a1 R.said.length c1, .int .i64 R.heard, .int .i64 R.out, .slice a2 R.took.length c2, .int .i64 R.took.length, .int .i64 R.last, .bool R.went, .bool R.owes], .slice A (R.took.length - R.gave) (c2 - R.gave)]) (by simp [results, Try.results33, go_sem]) rfl ⟨_, rfl, (HO.out.alloc _).alloc _, HU.out⟩

theorem MsgL.cap {w0 : World} {X : List Blk} {ao : Option Addr} {n cap : Nat} {ms : List (List UInt8)} (h : MsgL w0 X (.slice ao n cap) ms) : ms.length ≤ cap ∧ (ao = none → ms.length = 0 ∧ cap = 0) := by
  obtain ⟨x, hx, -⟩ := h
  obtain ⟨a, c, e, h1, h2⟩ := hx.slice
  cases e; exact ⟨h1, h2⟩
/-- The cells of a list of messages, in a world that has them. -/
theorem MsgL.open_ {w w0 : World} {X Y : List Blk} {ao : Option Addr} {n cap : Nat} {ms : List (List UInt8)} (h : MsgL w0 X (.slice ao n cap) ms) (O : Ow w w0 Y) (hX : Sub X Y) : ∃ us, us.length = ms.length ∧ Msgs w0 X us ms ∧ ∀ ad, ao = some ad → ∀ j u, us[j]? = some u → w.cell? (ad.add j) = some u := by
  obtain ⟨us, hs, hm⟩ := h
  exact ⟨us, hs.1, hm, hs.cells O hX⟩

set_option maxRecDepth 100000 in
set_option maxHeartbeats 4000000 in
theorem rSay_no (R : RS) (vs vt v : Value) (m : List UInt8) (w w0 : World) (X Y : List Blk) (O : Ow w w0 Y) (hX : Sub X Y) (hM : RM w0 X R vs vt) (hR : RW 1000000 R) (hv : BSl w v m) (E : Int) (hE : (4096 < m.length ∧ E = 5) ∨ (m.length ≤ 4096 ∧ R.most ≤ R.said.length - R.heard ∧ E = 8)) :
    Calls Try.prog 28 #[.agg (rcs R vs vt), v] w fun e w' => e = .returned (.tuple #[.agg (rcs R vs vt), .int .i64 E]) ∧ Ow w' w0 Y := by
  obtain ⟨a1, c1, rfl⟩ := hM.1.slice
  obtain ⟨a2, c2, rfl⟩ := hM.2.slice
  obtain ⟨av, cv, rfl, -⟩ := hv.open_
  have h1 := hR.said
  have h2 := hR.le
  have h3 := hR.most
  have HO := Lib.hid O
  clear hM O hv
  simp only [rcs]
  rcases hE with ⟨h4, rfl⟩ | ⟨h4, h5, rfl⟩
  · have hd : decide ((4096 : Int) < (m.length : Int)) = true := decide_eq_true (by omega)
    go_enter Try.func28, Try.ntmps28
    go_wp2
    refine bodyPost_ret (v := .tuple #[.agg #[.int .i64 R.most, .int .i64 R.again, .slice a1 R.said.length c1, .int .i64 R.heard, .int .i64 R.out, .slice a2 R.took.length c2, .int .i64 R.gave, .int .i64 R.last, .bool R.went, .bool R.owes], .int .i64 5]) (by simp [results, Try.results28, go_sem]) rfl ⟨rfl, (HO.out.alloc _).alloc _⟩
  · have hd : decide ((4096 : Int) < (m.length : Int)) = false := decide_eq_false (by omega)
    have hd2 : decide ((R.most : Int) ≤ (R.said.length : Int) - (R.heard : Int)) = true := decide_eq_true (by omega)
    go_enter Try.func28, Try.ntmps28
    go_wp2
    refine bodyPost_ret (v := .tuple #[.agg #[.int .i64 R.most, .int .i64 R.again, .slice a1 R.said.length c1, .int .i64 R.heard, .int .i64 R.out, .slice a2 R.took.length c2, .int .i64 R.gave, .int .i64 R.last, .bool R.went, .bool R.owes], .int .i64 8]) (by simp [results, Try.results28, go_sem]) rfl ⟨rfl, (HO.out.alloc _).alloc _⟩

theorem Ow.join {w w0 w' : World} {N Y : List Blk} (O : Ow w w0 Y) (k : Ow w' w N) : Ow w' w0 (N ++ Y) :=
  O.found (Ext.of_below k.below) k.mem.apart fun x hx => ⟨k.new x hx, k.mem.has x hx⟩

set_option maxRecDepth 100000 in
set_option maxHeartbeats 4000000 in
theorem rSay_walk (R : RS) (a1 a2 : Option Addr) (c1 c2 : Nat) (v : Value) (m : List UInt8) (w : World) (us : List Value) (hul : us.length = R.said.length) (hone : ∀ u ∈ us, u.oneCell' = true) (hcap : a1 = none → R.said.length = 0 ∧ c1 = 0) (hus : ∀ ad, a1 = some ad → ∀ j u, us[j]? = some u → w.cell? (ad.add j) = some u) (hR : RW 1000000 R) (hv : BSl w v m) (hm : m.length ≤ 4096) (hw : ¬ R.most ≤ R.said.length - R.heard) :
    Calls Try.prog 28 #[.agg #[.int .i64 R.most, .int .i64 R.again, .slice a1 R.said.length c1, .int .i64 R.heard, .int .i64 R.out, .slice a2 R.took.length c2, .int .i64 R.gave, .int .i64 R.last, .bool R.went, .bool R.owes], v] w fun e w' => ∃ ao cap u B N, e = .returned (.tuple #[.agg #[.int .i64 R.most, .int .i64 R.again, .slice ao (R.said.length + 1) cap, .int .i64 R.heard, .int .i64 R.out, .slice a2 R.took.length c2, .int .i64 R.gave, .int .i64 R.last, .bool R.went, .bool R.owes], .int .i64 0]) ∧ Ow w' w (B ++ N) ∧ Row 34 1 (.slice ao (R.said.length + 1) cap) (R.said.length + 1) (us ++ [u]) B ∧ ∀ w1, Msg w1 N u m := by
  obtain ⟨av, cv, rfl, -⟩ := hv.open_
  have h1 := hR.said
  have h2 := hR.le
  have h3 := hR.most
  have HO := Lib.hid ((((Ow.start w).key #[.int .i64 R.most, .int .i64 R.again, .slice a1 R.said.length c1, .int .i64 R.heard, .int .i64 R.out, .slice a2 R.took.length c2, .int .i64 R.gave, .int .i64 R.last, .bool R.went, .bool R.owes] 27 w.heap.size rfl).key #[.int .i64 0, .int .i64 0, .slice none 0 0, .int .i64 0, .int .i64 0, .slice none 0 0, .int .i64 0, .int .i64 0, .bool false, .bool false] 27 (w.heap.size + 1) (by simp)).key #[] 34 (w.heap.size + 2) (by simp))
  have HV := Lib.hid hv
  have hd : decide ((4096 : Int) < (m.length : Int)) = false := decide_eq_false (by omega)
  have hd2 : decide ((R.most : Int) ≤ (R.said.length : Int) - (R.heard : Int)) = false := decide_eq_false (by omega)
  have HUC : Hid (∀ ad, a1 = some ad → ∀ j u, us[j]? = some u → (((w.alloc (.cells #[.int .i64 R.most, .int .i64 R.again, .slice a1 R.said.length c1, .int .i64 R.heard, .int .i64 R.out, .slice a2 R.took.length c2, .int .i64 R.gave, .int .i64 R.last, .bool R.went, .bool R.owes] 27)).alloc (.cells #[.int .i64 0, .int .i64 0, .slice none 0 0, .int .i64 0, .int .i64 0, .slice none 0 0, .int .i64 0, .int .i64 0, .bool false, .bool false] 27)).alloc (.cells #[] 34)).cell? (ad.add j) = some u) := fun ad had j u hj => Lib.cell?_alloc_some _ (Lib.cell?_alloc_some _ (Lib.cell?_alloc_some _ (hus ad had j u hj)))
  have HR0 := Lib.hid (Row.empty 34 1 (w.heap.size + 2))
  have HU4 := Lib.hid hone
  have HNQ : Hid (New w [⟨w.heap.size + 1, 27, #[.int .i64 0, .int .i64 0, .slice none 0 0, .int .i64 0, .int .i64 0, .slice none 0 0, .int .i64 0, .int .i64 0, .bool false, .bool false]⟩, ⟨w.heap.size, 27, #[.int .i64 R.most, .int .i64 R.again, .slice a1 R.said.length c1, .int .i64 R.heard, .int .i64 R.out, .slice a2 R.took.length c2, .int .i64 R.gave, .int .i64 R.last, .bool R.went, .bool R.owes]⟩]) := New.cons (Nat.le_succ _) (New.cons (Nat.le_refl _) (New.nil _))
  clear hv hus hone
  go_enter Try.func28, Try.ntmps28
  go_wp2_with (first
    | (at_builtin; refine wpList_append_row rfl (.tmp 20) (.tmp 22) 25 rfl elt_msg (B := [⟨w.heap.size + 2, 34, #[]⟩]) (L := [⟨w.heap.size + 1, 27, #[.int .i64 0, .int .i64 0, .slice none 0 0, .int .i64 0, .int .i64 0, .slice none 0 0, .int .i64 0, .int .i64 0, .bool false, .bool false]⟩, ⟨w.heap.size, 27, #[.int .i64 R.most, .int .i64 R.again, .slice a1 R.said.length c1, .int .i64 R.heard, .int .i64 R.out, .slice a2 R.took.length c2, .int .i64 R.gave, .int .i64 R.last, .bool R.went, .bool R.owes]⟩]) HO.out.mem (New.cons (HO.out.new _ (List.mem_cons_self ..)) (New.nil _)) _ _ _ (by rfl) HR0.out _ _ _ us (by rfl) (by rw [hul]; simp) hcap HUC.out HU4.out (by unfold maxLen; omega) (by omega) R.said.length (by omega) us (by simp) (fun ao' cap' B' w' R' M' hB' => ?_); (have HR1 := Lib.hid R'); (have HB1 := Lib.hid hB'); (have HV1 := Lib.hid ((HV.out.below (M'.below (New.app hB' HNQ.out))).alloc (.cells #[] 5))); (have HM1k := Lib.hid (M'.key #[] 5 w'.heap.size rfl)); (have HR1e := Lib.hid (Row.empty 5 1 w'.heap.size)); (have HN1 : Hid (New w [⟨w'.heap.size, 5, #[]⟩]) := New.cons M'.size (New.nil _)); clear R' M' hB')
    | (at_builtin; refine wpList_append_row rfl (.tmp 24) (.tmp 25) 34 rfl elt_byte (B := [⟨w'.heap.size, 5, #[]⟩]) (L := B' ++ [⟨w.heap.size + 1, 27, #[.int .i64 0, .int .i64 0, .slice none 0 0, .int .i64 0, .int .i64 0, .slice none 0 0, .int .i64 0, .int .i64 0, .bool false, .bool false]⟩, ⟨w.heap.size, 27, #[.int .i64 R.most, .int .i64 R.again, .slice a1 R.said.length c1, .int .i64 R.heard, .int .i64 R.out, .slice a2 R.took.length c2, .int .i64 R.gave, .int .i64 R.last, .bool R.went, .bool R.owes]⟩]) HM1k.out HN1.out _ _ _ (by rfl) HR1e.out _ _ _ (bcs m) (by rfl) (by rw [bcs_len]; simp) HV1.out.cells.2.1 HV1.out.cells.2.2 (bcs_one m) (by unfold maxLen; omega) (by omega) m.length (by omega) (bcs m) (by simp) (fun ao2 cap2' B2 w2 R2 M2 hB2 => ?_); (have HR2 := Lib.hid R2); (have HB2 := Lib.hid hB2); (have HM2k := Lib.hid ((M2.alloc (.cells #[.slice ao2 m.length cap2'] 34)).perm (L' := B' ++ (B2 ++ [⟨w.heap.size + 1, 27, #[.int .i64 0, .int .i64 0, .slice none 0 0, .int .i64 0, .int .i64 0, .slice none 0 0, .int .i64 0, .int .i64 0, .bool false, .bool false]⟩, ⟨w.heap.size, 27, #[.int .i64 R.most, .int .i64 R.again, .slice a1 R.said.length c1, .int .i64 R.heard, .int .i64 R.out, .slice a2 R.took.length c2, .int .i64 R.gave, .int .i64 R.last, .bool R.went, .bool R.owes]⟩])) (perm_cnt fun x => by simp only [cnt_append, cnt_cons, cnt_nil] <;> omega))); (have HCU : Hid ((w2.alloc (.cells #[.slice ao2 m.length cap2'] 34)).cell? ⟨w2.heap.size, 0, none⟩ = some (.slice ao2 m.length cap2')) := (HasBlk.new w2 34 #[.slice ao2 m.length cap2'] w2.heap.size rfl).cell 0); clear R2 M2 hB2)
    | (at_builtin; refine wpList_append_row rfl (.tmp 23) (.tmp 27) 25 rfl elt_msg HM2k.out HB1.out _ _ _ (by rfl) HR1.out _ _ _ [.slice ao2 m.length cap2'] (by rfl) (by simp) (by simp) (fun ad had j x hx => ?_) (by simp [Value.oneCell']) (by unfold maxLen; omega) (by omega) (R.said.length + 1) rfl (us ++ [.slice ao2 m.length cap2']) rfl (fun ao3 cap3 B3 w3 R3 M3 hB3 => ?_); (· cases had; obtain rfl : j = 0 := by { have := (List.getElem?_eq_some_iff.1 hx).1; simp at this; exact this }; simp at hx; subst hx; exact HCU.out); (have HR3 := Lib.hid R3); (have O3' := (Ow.mk3 M3 hB3 (New.app HB2.out HNQ.out)).perm (L' := ⟨w.heap.size, 27, #[.int .i64 R.most, .int .i64 R.again, .slice a1 R.said.length c1, .int .i64 R.heard, .int .i64 R.out, .slice a2 R.took.length c2, .int .i64 R.gave, .int .i64 R.last, .bool R.went, .bool R.owes]⟩ :: (⟨w.heap.size + 1, 27, #[.int .i64 0, .int .i64 0, .slice none 0 0, .int .i64 0, .int .i64 0, .slice none 0 0, .int .i64 0, .int .i64 0, .bool false, .bool false]⟩ :: (B3 ++ B2))) (perm_cnt fun x => by simp only [cnt_append, cnt_cons, cnt_nil] <;> omega)); (have d0 := (O3'.has (List.mem_cons_self ..)).cell 0); (have d1 := (O3'.has (List.mem_cons_self ..)).cell 1); (have d2 := (O3'.has (List.mem_cons_self ..)).cell 2); (have d3 := (O3'.has (List.mem_cons_self ..)).cell 3); (have d4 := (O3'.has (List.mem_cons_self ..)).cell 4); (have d5 := (O3'.has (List.mem_cons_self ..)).cell 5); (have d6 := (O3'.has (List.mem_cons_self ..)).cell 6); (have d7 := (O3'.has (List.mem_cons_self ..)).cell 7); (have d8 := (O3'.has (List.mem_cons_self ..)).cell 8); (have d9 := (O3'.has (List.mem_cons_self ..)).cell 9); (have f2 := (O3'.has (List.mem_cons_self ..)).frozen 2); (have lt3 := (O3'.has (List.mem_cons_self ..)).lt); (have HO4 := Lib.hid ((((O3'.set 2 (.slice ao3 (R.said.length + 1) cap3)).as (L' := ⟨w.heap.size, 27, #[.int .i64 R.most, .int .i64 R.again, .slice ao3 (R.said.length + 1) cap3, .int .i64 R.heard, .int .i64 R.out, .slice a2 R.took.length c2, .int .i64 R.gave, .int .i64 R.last, .bool R.went, .bool R.owes]⟩ :: (⟨w.heap.size + 1, 27, #[.int .i64 0, .int .i64 0, .slice none 0 0, .int .i64 0, .int .i64 0, .slice none 0 0, .int .i64 0, .int .i64 0, .bool false, .bool false]⟩ :: (B3 ++ B2))) (by simp))).perm (L' := ⟨w.heap.size + 1, 27, #[.int .i64 0, .int .i64 0, .slice none 0 0, .int .i64 0, .int .i64 0, .slice none 0 0, .int .i64 0, .int .i64 0, .bool false, .bool false]⟩ :: (⟨w.heap.size, 27, #[.int .i64 R.most, .int .i64 R.again, .slice ao3 (R.said.length + 1) cap3, .int .i64 R.heard, .int .i64 R.out, .slice a2 R.took.length c2, .int .i64 R.gave, .int .i64 R.last, .bool R.went, .bool R.owes]⟩ :: (B3 ++ B2))) (perm_cnt fun x => by simp only [cnt_append, cnt_cons, cnt_nil] <;> omega))); clear R3 M3 hB3 O3')
    | (refine wpList_store_ow rfl 27 (.tmp 4) (.tmp 30) rfl HO4.out (by rfl) #[.int .i64 R.most, .int .i64 R.again, .slice ao3 (R.said.length + 1) cap3, .int .i64 R.heard, .int .i64 R.out, .slice a2 R.took.length c2, .int .i64 R.gave, .int .i64 R.last, .bool R.went, .bool R.owes] (by rfl) (by kernel_rfl) (by rfl) (by simp [Value.oneCell']) ?_; intro w4 O4; (have e0 := (O4.has (List.mem_cons_self ..)).cell 0); (have e1 := (O4.has (List.mem_cons_self ..)).cell 1); (have e2 := (O4.has (List.mem_cons_self ..)).cell 2); (have e3 := (O4.has (List.mem_cons_self ..)).cell 3); (have e4 := (O4.has (List.mem_cons_self ..)).cell 4); (have e5 := (O4.has (List.mem_cons_self ..)).cell 5); (have e6 := (O4.has (List.mem_cons_self ..)).cell 6); (have e7 := (O4.has (List.mem_cons_self ..)).cell 7); (have e8 := (O4.has (List.mem_cons_self ..)).cell 8); (have e9 := (O4.has (List.mem_cons_self ..)).cell 9); (have HO5 := Lib.hid O4); clear O4))
  refine bodyPost_ret (v := .tuple #[.agg #[.int .i64 R.most, .int .i64 R.again, .slice ao3 (R.said.length + 1) cap3, .int .i64 R.heard, .int .i64 R.out, .slice a2 R.took.length c2, .int .i64 R.gave, .int .i64 R.last, .bool R.went, .bool R.owes], .int .i64 0]) (by simp [results, Try.results28, go_sem, e0, e1, e2, e3, e4, e5, e6, e7, e8, e9]) rfl ?_
  exact ⟨ao3, cap3, _, B3, B2, rfl, HO5.out.drop1.drop1, HR3.out, fun w1 => HR2.out.msg w1⟩

/-- Say, of whatever message. -/
theorem rSay_to (R : RS) (vs vt v : Value) (m : List UInt8) (w w0 : World) (X Y : List Blk) (O : Ow w w0 Y) (hX : Sub X Y) (hM : RM w0 X R vs vt) (hR : RW 1000000 R) (hv : BSl w v m) (R' : RS) (hR' : rSay R m = R') (E : Nat) (hE : rSayE R m = E) :
    Calls Try.prog 28 #[.agg (rcs R vs vt), v] w fun e w' => ∃ vs' N, e = .returned (.tuple #[.agg (rcs R' vs' vt), .int .i64 E]) ∧ Ow w' w0 (N ++ Y) ∧ RM w0 (N ++ X) R' vs' vt := by
  subst hR' hE
  unfold rSay rSayE
  by_cases h1 : 4096 < m.length
  · rw [if_pos h1, if_pos h1]
    refine (rSay_no R vs vt v m w w0 X Y O hX hM hR hv 5 (.inl ⟨h1, rfl⟩)).mono ?_
    rintro e w' ⟨rfl, O'⟩
    exact ⟨vs, [], rfl, O', hM⟩
  · rw [if_neg h1, if_neg h1]
    by_cases h2 : R.most ≤ R.said.length - R.heard
    · rw [if_pos h2, if_pos h2]
      refine (rSay_no R vs vt v m w w0 X Y O hX hM hR hv 8 (.inr ⟨by omega, h2, rfl⟩)).mono ?_
      rintro e w' ⟨rfl, O'⟩
      exact ⟨vs, [], rfl, O', hM⟩
    · rw [if_neg h2, if_neg h2]
      obtain ⟨hs, ht⟩ := hM
      obtain ⟨a1, c1, rfl⟩ := hs.slice
      obtain ⟨a2, c2, rfl⟩ := ht.slice
      obtain ⟨us, hul, hum, huc⟩ := hs.open_ O hX
      refine (rSay_walk R a1 a2 c1 c2 v m w us hul hum.one hs.cap.2 huc hR hv (by omega) h2).mono ?_
      rintro e w' ⟨ao, cap, u, B, N, rfl, O', Rr, Mu⟩
      refine ⟨_, B ++ N, rfl, O.join O', ⟨us ++ [u], ?_, ?_⟩, ht.mono (Sub.app _ _)⟩
      · have := (Rr.sl w0).mono (L' := (B ++ N) ++ X) (by intro x hx; simp [hx])
        simpa using this
      · exact (hum.mono (by intro x hx; simp [hx])).snoc ((Mu w0).mono (by intro x hx; simp [hx]))

end Go.Proofs.Ytgjodjkmefdilaa
