/- guard: contracts of Claims' closure, of IndexFunc and ContainsFunc with it, of Claims. -/
import Derived.Test.YtghaiplhakeahaaWg
import Derived.Test.YtghaiplhakeahaaOb
namespace Go.Proofs.Ytghaiplhakeahaa
set_option linter.unusedSimpArgs false
set_option linter.unusedVariables false
open Go.RowKit Go.WideMaps Go.ChangeMaps Go.Maps

/-! ### Rows of claims -/
/-- A row of claims, wherever it lies. -/
def CSl (w : World) (v : Value) (ms : List (List UInt8)) : Prop := ∃ (us : List Value) (ao : Option Addr) (cap : Nat), v = .slice ao ms.length cap ∧ ms.length ≤ cap ∧ (ms.length = 0 ∨ ∃ r o, ao = some ⟨r, o, none⟩ ∧ r < w.heap.size ∧ ∀ i, i < ms.length → w.cell? ⟨r, o + i, none⟩ = some (us.getD i undef) ∧ BSl w (us.getD i undef) (ms.getD i []))
theorem CSl.slice {w : World} {v : Value} {ms : List (List UInt8)} (h : CSl w v ms) : ∃ ao cap, v = .slice ao ms.length cap ∧ ms.length ≤ cap := by
  obtain ⟨us, ao, cap, h1, h2, -⟩ := h; exact ⟨ao, cap, h1, h2⟩
theorem CSl.below {w w' : World} {v : Value} {ms : List (List UInt8)} (h : CSl w v ms) (hb : Below w.heap.size w w') : CSl w' v ms := by
  obtain ⟨us, ao, cap, h1, h2, h3⟩ := h
  refine ⟨us, ao, cap, h1, h2, h3.imp id ?_⟩
  rintro ⟨r, o, e, hlt, hc⟩
  refine ⟨r, o, e, Nat.lt_of_lt_of_le hlt hb.size, fun i hi => ⟨?_, (hc i hi).2.below hb⟩⟩
  rw [← (hc i hi).1]
  exact World.cell?_of_block (a := ⟨r, _, none⟩) (hb.block _ hlt)
theorem CSl.elem {w : World} {ao : Option Addr} {n cap : Nat} {ms : List (List UInt8)} (h : CSl w (.slice ao n cap) ms) {i : Nat} (hi : i < ms.length) : ∃ r o u, ao = some ⟨r, o, none⟩ ∧ r < w.heap.size ∧ w.cell? ⟨r, o + i, none⟩ = some u ∧ BSl w u (ms.getD i []) := by
  obtain ⟨us, ao', cap', e, -, h3⟩ := h
  cases e
  rcases h3 with h3 | ⟨r, o, rfl, hlt, hc⟩
  · omega
  · exact ⟨r, o, _, rfl, hlt, (hc i hi).1, (hc i hi).2⟩
/-- A row in memory of the call's own, its claims in blocks L. -/
theorem CSl.mk {e : TypeId} {v : Value} {us : List Value} {ms : List (List UInt8)} {B L Y : List Blk} {w w0 : World} (R : Row e 1 v ms.length us B) (hm : Msgs w0 L us ms) (O : Ow w w0 (B ++ Y)) (hL : ∀ x ∈ L, x ∈ B ++ Y) : CSl w v ms := by
  have hc := R.cells O.mem
  have hg : ∀ i, i < ms.length → us[i]? = some (us.getD i undef) ∧ BSl w (us.getD i undef) (ms.getD i []) := fun i hi => by
    obtain ⟨u, h1, h2⟩ := hm.get i hi
    have e : us.getD i undef = u := by rw [List.getD_eq_getElem?_getD, h1]; rfl
    rw [e]
    exact ⟨h1, h2.bsl O hL⟩
  generalize hN : ms.length = N at R hg
  generalize hy : us = ys at R
  cases R with
  | void => exact ⟨us, none, 0, by rw [hN], by omega, .inl hN⟩
  | one r n cap cur h1 h2 h3 =>
    refine ⟨us, _, cap, by rw [hN], by omega, .inr ⟨r, 0, rfl, O.mem.lt (x := ⟨r, e, cur⟩) (by simp), fun i hi => ?_⟩⟩
    rw [hN] at hi
    obtain ⟨q1, q2⟩ := hg i hi
    have := hc _ _ (by rw [hN]) ⟨r, 0, none⟩ rfl i _ q1
    refine ⟨?_, q2⟩
    rw [← this]
    congr 1
    unfold Addr.add; split <;> simp_all

/-! ### The closure -/
set_option maxRecDepth 100000 in
set_option maxHeartbeats 1000000 in
theorem clo_to (u v : Value) (l m : List UInt8) (b : Nat) (c : Bool) (hc : (l == m) = c) (w : World) (hu : BSl w u l) (hv : BSl w v m) (hb : HasBlk w b 26 #[v]) :
    Calls Try.prog 83 #[u, tptr b] w fun e w' => e = .returned (.bool c) ∧ w' = w := by
  have c0 : w.cell? ⟨b, 0, none⟩ = some v := hb.cell 0
  have lt := hb.lt
  obtain ⟨au, cu, rfl, -, -⟩ := id hu
  obtain ⟨av, cv, rfl, -, -⟩ := id hv
  have HU := Lib.hid hu
  have HV := Lib.hid hv
  have HC := Lib.hid hc
  clear hu hv hc hb
  go_enter Try.func83, Try.ntmps83
  go_wp2_with fail
  refine (equalB_any _ _ l m c HC.out _ HU.out HV.out).mono ?_
  rintro e w' ⟨rfl, rfl⟩
  go_wp2
  go_ret
  exact ⟨rfl, rfl⟩
set_option maxRecDepth 100000 in
set_option maxHeartbeats 2000000 in
theorem indexF_to (s : Value) (ms : List (List UInt8)) (v : Value) (m : List UInt8) (b : Nat) (hn : ms.length ≤ 1000000) (w : World) (hs : CSl w s ms) (hv : BSl w v m) (hb : HasBlk w b 26 #[v]) :
    Calls Try.prog 100 #[s, .func (.func 83) #[] #[tptr b]] w fun e w' => ∃ r : Int, e = .returned (.int .i64 r) ∧ (0 ≤ r ↔ m ∈ ms) ∧ Below w.heap.size w w' := by
  obtain ⟨ao, cap, rfl, hcap⟩ := hs.slice
  have HS := Lib.hid hs
  have HV := Lib.hid hv
  have HB := Lib.hid hb
  clear hs hv hb
  go_enter Try.func100, Try.ntmps100
  go_wp2_with fail
  go_loopw [8] (fun i wr => ∃ k : Nat, i = .int .i64 k ∧ k ≤ ms.length ∧ (∀ j, j < k → ms.getD j [] ≠ m) ∧ wr = w) (fun i _ => ms.length - (intOf i).toNat)
  case atStart => exact ⟨0, rfl, by omega, fun j hj => by omega, rfl⟩
  case round =>
    obtain ⟨k, rfl, hk, hj, rfl⟩ := hrel
    have HJ := Lib.hid hj
    by_cases hlt : k < ms.length
    · obtain ⟨r, o, u, rfl, hr, hc, hu⟩ := HS.out.elem hlt
      obtain ⟨y, hy⟩ : ∃ y, ms.getD k [] = y := ⟨_, rfl⟩
      rw [hy] at hu
      have HU := Lib.hid hu
      have HY := Lib.hid hy
      obtain ⟨au, cu, rfl, -, -⟩ := hu
      clear hj hy
      cases hb : (y == m) with
      | true =>
        go_wp2_with fail
        refine (clo_to _ v y m b true hb _ HU.out HV.out HB.out).mono ?_
        rintro e w' ⟨rfl, rfl⟩
        go_wp2
        go_ret
        refine ⟨_, rfl, ?_, Below.refl _ _⟩
        have hym : y = m := by simpa using hb
        constructor
        · intro _
          rw [← hym, ← HY.out, List.getD_eq_getElem?_getD, List.getElem?_eq_getElem hlt]
          exact List.getElem_mem _
        · intro _; omega
      | false =>
        go_wp2_with fail
        refine (clo_to _ v y m b false hb _ HU.out HV.out HB.out).mono ?_
        rintro e w' ⟨rfl, rfl⟩
        go_wp2
        refine ⟨⟨k + 1, by simp, by omega, fun j hj => ?_, by simp⟩, by simp [intOf]; omega⟩
        rcases (by omega : j < k ∨ j = k) with h | rfl
        · exact HJ.out j h
        · rw [HY.out]; simpa using hb
    · obtain rfl : k = ms.length := by omega
      clear hj
      go_wp2
      go_ret
      refine ⟨_, rfl, ?_, Below.refl _ _⟩
      constructor
      · intro h; omega
      · intro h
        obtain ⟨j, hj, rfl⟩ := List.getElem_of_mem h
        have := HJ.out j hj
        rw [List.getD_eq_getElem?_getD, List.getElem?_eq_getElem hj] at this
        exact absurd rfl this
set_option maxRecDepth 100000 in
set_option maxHeartbeats 2000000 in
theorem containsF_to (s : Value) (ms : List (List UInt8)) (v : Value) (m : List UInt8) (b : Nat) (hn : ms.length ≤ 1000000) (w : World) (hs : CSl w s ms) (hv : BSl w v m) (hb : HasBlk w b 26 #[v]) (c : Bool) (hc : c = true ↔ m ∈ ms) :
    Calls Try.prog 82 #[s, .func (.func 83) #[] #[tptr b]] w fun e w' => e = .returned (.bool c) ∧ Below w.heap.size w w' := by
  obtain ⟨ao, cap, rfl, hcap⟩ := hs.slice
  have HS := Lib.hid hs
  have HV := Lib.hid hv
  have HB := Lib.hid hb
  have HC := Lib.hid hc
  clear hs hv hb hc
  go_enter Try.func82, Try.ntmps82
  go_wp2_with fail
  refine (indexF_to _ ms v m b hn _ HS.out HV.out HB.out).mono ?_
  rintro e w1 ⟨r, rfl, hr, hb1⟩
  have hd : decide ((0 : Int) ≤ r) = c := by
    cases c with
    | true => exact decide_eq_true (hr.2 (HC.out.1 rfl))
    | false =>
      refine decide_eq_false fun h => ?_
      have := HC.out.2 (hr.1 h)
      cases this
  have HB1 := Lib.hid hb1
  clear hb1 hr
  go_wp2
  go_ret
  exact ⟨rfl, HB1.out⟩

/-! ### Claims -/
def addC (acc : List (List UInt8)) (r : List UInt8 × Bool) : List (List UInt8) := if r.2 = true ∧ r.1 ∉ acc then acc ++ [r.1] else acc
noncomputable def claimsK (ts : List (Nat × TWS)) (x : BitVec 64) (base : Int) : Nat → List (List UInt8)
  | 0 => []
  | k + 1 => addC (claimsK ts x base k) (seeT (ts.getD k (0, ⟨0, []⟩)).2 x base)
noncomputable def claimsL (ts : List (Nat × TWS)) (x : BitVec 64) (base : Int) : List (List UInt8) := claimsK ts x base ts.length
theorem claimsK_len (ts : List (Nat × TWS)) (x : BitVec 64) (base : Int) : ∀ k, (claimsK ts x base k).length ≤ k
  | 0 => Nat.le_refl _
  | k + 1 => by
    have := claimsK_len ts x base k
    unfold claimsK addC
    split
    · simp; omega
    · omega
set_option maxRecDepth 100000 in
set_option maxHeartbeats 4000000 in
theorem claims_to (v : Value) (ts : List (Nat × TWS)) (hn : ts.length ≤ 1000000) (hok : ∀ t ∈ ts, TOk t.2) (x : BitVec 64) (base : Int) (w w0 : World) (C X : List Blk) (p : Nat) (G : GS) (H : KS w w0 C X p G ts) (hv : Rws w v ts.length 1 (fun i => [tptr (ts.getD i (0, ⟨0, []⟩)).1])) :
    Calls Try.prog 55 #[v, .agg #[.int .u8 (by8 x 0), .int .u8 (by8 x 1), .int .u8 (by8 x 2), .int .u8 (by8 x 3), .int .u8 (by8 x 4), .int .u8 (by8 x 5), .int .u8 (by8 x 6), .int .u8 (by8 x 7)], .int .i64 base] w fun e w' => ∃ u, e = .returned u ∧ Below w.heap.size w w' ∧ CSl w' u (claimsL ts x base) := by
  obtain ⟨ao, cap, rfl, hcap, -⟩ := hv.slice
  have HV := Lib.hid hv
  have HK := Lib.hid H
  have HOK := Lib.hid hok
  have HO := Lib.hid ((Ow.start w).key #[.int .u8 (by8 x 0), .int .u8 (by8 x 1), .int .u8 (by8 x 2), .int .u8 (by8 x 3), .int .u8 (by8 x 4), .int .u8 (by8 x 5), .int .u8 (by8 x 6), .int .u8 (by8 x 7)] 27 w.heap.size rfl)
  clear hv H hok
  have hmf : ∀ (fn : Fn) (first cap : Array Value) (w : World), (Instr.makeFunc fn first cap).run Try.prog w = .ok (.func fn first cap) w := fun _ _ _ _ => rfl
  go_enter Try.func55, Try.ntmps55
  obtain ⟨b4, hb4⟩ : ∃ b, b = w.heap.size := ⟨_, rfl⟩
  go_wp2_with fail
  simp only [← hb4] at HO ⊢
  clear hb4
  go_loopw [7, 14] (fun vc vi wr => ∃ (k : Nat) (B N : List Blk) (us : List Value), vi = .int .i64 k ∧ k ≤ ts.length ∧ Row 26 1 vc (claimsK ts x base k).length us B ∧ Msgs w N us (claimsK ts x base k) ∧ Ow wr w (B ++ (N ++ [⟨b4, 27, #[.int .u8 (by8 x 0), .int .u8 (by8 x 1), .int .u8 (by8 x 2), .int .u8 (by8 x 3), .int .u8 (by8 x 4), .int .u8 (by8 x 5), .int .u8 (by8 x 6), .int .u8 (by8 x 7)]⟩]))) (fun _ vi _ => ts.length - (intOf vi).toNat)
  case atStart => exact ⟨0, [], [], [], rfl, by omega, .void, Msgs.nil _ _, HO.out⟩
  case round =>
    clear HO
    obtain ⟨k, B, N, us, rfl, hk, hR, hM, hO⟩ := hrel
    have HR := Lib.hid hR
    have HM := Lib.hid hM
    have HO := Lib.hid hO
    have hkl := claimsK_len ts x base k
    obtain ⟨ac, cc, rfl⟩ := hR.slice
    by_cases hlt : k < ts.length
    · obtain ⟨r, o, hao, hr, hcell⟩ : ∃ r o, ao = some ⟨r, o, none⟩ ∧ r < w.heap.size ∧ w.cell? ⟨r, o + k, none⟩ = some (tptr (ts.getD k (0, ⟨0, []⟩)).1) := by
        obtain ⟨ao', cap', e, h2, h3⟩ := HV.out
        cases e
        rcases h3 with h3 | ⟨r, o, e, hlt', hc⟩
        · omega
        · refine ⟨r, o, e, hlt', ?_⟩
          have := hc k hlt 0 _ rfl
          simpa using this
      subst hao
      obtain ⟨q, T, ht⟩ : ∃ q T, ts.getD k (0, ⟨0, []⟩) = (q, T) := ⟨_, _, rfl⟩
      have hi : ts[k]? = some (q, T) := by
        rw [List.getD_eq_getElem?_getD, List.getElem?_eq_getElem hlt] at ht
        rw [List.getElem?_eq_getElem hlt, ← ht]
        rfl
      have HI := Lib.hid hi
      have HTO : Hid (TOk T) := HOK.out (q, T) (List.mem_of_getElem? hi)
      rw [ht] at hcell
      have cp : wr.cell? ⟨r, o + k, none⟩ = some (tptr q) := by
        rw [← hcell]; exact World.cell?_of_block (a := ⟨r, _, none⟩) (hO.below.block _ hr)
      have lr : r < wr.heap.size := Nat.lt_of_lt_of_le hr hO.below.size
      obtain ⟨l, b, hS⟩ : ∃ l b, seeT T x base = (l, b) := ⟨_, _, rfl⟩
      have HS := Lib.hid hS
      have HCK : Hid (claimsK ts x base (k + 1) = addC (claimsK ts x base k) (l, b)) := by
        show _ = _
        rw [← hS]
        show addC _ (seeT (ts.getD k (0, ⟨0, []⟩)).2 x base) = _
        rw [ht]
      (have hq := hO.has (b := b4) (t := 27) (cs := #[.int .u8 (by8 x 0), .int .u8 (by8 x 1), .int .u8 (by8 x 2), .int .u8 (by8 x 3), .int .u8 (by8 x 4), .int .u8 (by8 x 5), .int .u8 (by8 x 6), .int .u8 (by8 x 7)]) (by simp)); (have x0 := hq.cell 0); (have x1 := hq.cell 1); (have x2 := hq.cell 2); (have x3 := hq.cell 3); (have x4 := hq.cell 4); (have x5 := hq.cell 5); (have x6 := hq.cell 6); (have x7 := hq.cell 7); (have lx := hq.lt); (simp only [List.getElem?_toArray, List.getElem?_cons_succ, List.getElem?_cons_zero] at x0 x1 x2 x3 x4 x5 x6 x7); clear hq
      obtain ⟨acc, hacc⟩ : ∃ acc, claimsK ts x base k = acc := ⟨_, rfl⟩
      simp only [hacc] at HR HM HCK hkl ⊢
      clear hR hM hO hcell hi hS ht hacc hr
      go_wp2_with fail
      refine (ksee_to (HK.out.of_below HO.out.below) HI.out HTO.out x base l b HS.out).mono ?_
      rintro e w5 ⟨u, rfl, hb5, hu⟩
      obtain ⟨N5, O5, hm5⟩ := hu.found HO.out (Ext.of_below hb5)
      obtain ⟨au, cu, rfl⟩ := (hm5 w).slice
      have HM5 := Lib.hid (hm5 w)
      have HO6 := Lib.hid ((O5.key #[.slice au l.length cu] 26 w5.heap.size rfl).perm (L' := B ++ (⟨w5.heap.size, 26, #[.slice au l.length cu]⟩ :: (N5 ++ (N ++ [⟨b4, 27, #[.int .u8 (by8 x 0), .int .u8 (by8 x 1), .int .u8 (by8 x 2), .int .u8 (by8 x 3), .int .u8 (by8 x 4), .int .u8 (by8 x 5), .int .u8 (by8 x 6), .int .u8 (by8 x 7)]⟩])))) (perm_cnt fun x => by simp only [cnt_append, cnt_cons, cnt_nil] <;> omega))
      clear hb5 hu O5 hm5 cp lr x0 x1 x2 x3 x4 x5 x6 x7 lx
      cases b with
      | false =>
        go_wp2
        have hcl : claimsK ts x base (k + 1) = acc := by rw [HCK.out]; simp [addC]
        refine ⟨⟨k + 1, B, N, us, by simp, by omega, by rw [hcl]; exact HR.out, by rw [hcl]; exact HM.out, ?_⟩, by simp [intOf]; omega⟩
        exact Ow.drop (B := ⟨w5.heap.size, 26, #[.slice au l.length cu]⟩ :: N5) (HO6.out.perm (perm_cnt fun x => by simp only [cnt_append, cnt_cons, cnt_nil] <;> omega))
      | true =>
        have HCS : Hid (CSl (w5.alloc (.cells #[.slice au l.length cu] 26)) (.slice ac acc.length cc) acc) := CSl.mk HR.out HM.out HO6.out (by intro z hz; simp [hz])
        have HBS : Hid (BSl (w5.alloc (.cells #[.slice au l.length cu] 26)) (.slice au l.length cu) l) := HM5.out.bsl HO6.out (by intro z hz; simp [hz])
        have HHB : Hid (HasBlk (w5.alloc (.cells #[.slice au l.length cu] 26)) w5.heap.size 26 #[.slice au l.length cu]) := HO6.out.has (by simp)
        by_cases hin : l ∈ acc
        · go_wp2_with fail
          refine (containsF_to _ acc _ l w5.heap.size (by omega) _ HCS.out HBS.out HHB.out true (by simp [hin])).mono ?_
          rintro e w7 ⟨rfl, hb7⟩
          have HO7 := Lib.hid (HO6.out.of_below hb7)
          clear hb7
          go_wp2
          have hcl : claimsK ts x base (k + 1) = acc := by rw [HCK.out]; simp [addC, hin]
          refine ⟨⟨k + 1, B, N, us, by simp, by omega, by rw [hcl]; exact HR.out, by rw [hcl]; exact HM.out, ?_⟩, by simp [intOf]; omega⟩
          exact Ow.drop (B := ⟨w5.heap.size, 26, #[.slice au l.length cu]⟩ :: N5) (HO7.out.perm (perm_cnt fun x => by simp only [cnt_append, cnt_cons, cnt_nil] <;> omega))
        · go_wp2_with fail
          refine (containsF_to _ acc _ l w5.heap.size (by omega) _ HCS.out HBS.out HHB.out false (by simp [hin])).mono ?_
          rintro e w7 ⟨rfl, hb7⟩
          have HO7 := Lib.hid (HO6.out.of_below hb7)
          have hcl : claimsK ts x base (k + 1) = acc ++ [l] := by rw [HCK.out]; simp [addC, hin]
          have HCL := Lib.hid hcl
          (have hq := HO7.out.has (b := w5.heap.size) (t := 26) (cs := #[.slice au l.length cu]) (by simp)); (have f0 : w7.cell? ⟨w5.heap.size, 0, none⟩ = some (.slice au l.length cu) := hq.cell 0); (have lf := hq.lt); clear hq
          clear hb7 hcl HO6 HCS HBS HHB
          go_wp2_with (at_builtin; refine HO7.out.appendNew rfl (.tmp 32) (.tmp 34) 109 rfl elt_msg (by rfl) HR.out #[.slice au l.length cu] _ _ 1 1 (by rfl) (by simp) (by rfl) (by simp [Value.oneCell']) (by unfold maxLen; omega) (by omega) (acc.length + 1) rfl (us ++ [.slice au l.length cu]) rfl (fun ao' cap' B' w8 R8 O8 => ?_); (have HR8 := Lib.hid R8); (have HO8 := Lib.hid O8); clear R8 O8)
          refine ⟨⟨k + 1, B', N5 ++ N, us ++ [.slice au l.length cu], by simp, by omega, ?_, ?_, ?_⟩, by simp [intOf]; omega⟩
          · rw [HCL.out, List.length_append]; exact HR8.out
          · rw [HCL.out]
            exact (HM.out.mono (by intro z hz; simp [hz])).snoc (HM5.out.mono (by intro z hz; simp [hz]))
          · exact Ow.drop1 (HO8.out.perm (L' := ⟨w5.heap.size, 26, #[.slice au l.length cu]⟩ :: (B' ++ ((N5 ++ N) ++ [⟨b4, 27, #[.int .u8 (by8 x 0), .int .u8 (by8 x 1), .int .u8 (by8 x 2), .int .u8 (by8 x 3), .int .u8 (by8 x 4), .int .u8 (by8 x 5), .int .u8 (by8 x 6), .int .u8 (by8 x 7)]⟩]))) (perm_cnt fun x => by simp only [cnt_append, cnt_cons, cnt_nil] <;> omega))
    · obtain rfl : k = ts.length := by omega
      clear hR hM hO
      go_wp2
      go_ret
      exact ⟨_, rfl, HO.out.below, CSl.mk HR.out HM.out HO.out (by intro z hz; simp [hz])⟩

end Go.Proofs.Ytghaiplhakeahaa
