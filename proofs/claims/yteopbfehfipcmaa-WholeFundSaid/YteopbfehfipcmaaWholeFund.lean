/- The law WholeFund: its walk. -/
import Derived.Test.YteopbfehfipcmaaFh
import Derived.Test.YteopbfehfipcmaaOrw
import Derived.Test.YteopbfehfipcmaaIn2
import Derived.Deep.CutRange
import Derived.Deep.CutBlock
import Derived.Deep.DeepCutAuto
namespace Go.Proofs.Yteopbfehfipcmaa
set_option linter.unusedSimpArgs false
set_option linter.unusedVariables false
open Go.RowKit Go.WideMaps Go.ChangeMaps Go.Maps

theorem elt_int : Elt Try.prog 24 3 1 8 := by
  have h : (Try.prog.info? 3).map (fun i => (i.zero, i.size, i.bytes)) = some (some (.int .i64 0), 1, 8) := by kernel_rfl
  exact elt_mk _ Try.underlying24 h rfl (by decide)
theorem elt_ent : Elt Try.prog 25 30 10 24 := by
  have h : (Try.prog.info? 30).map (fun i => (i.zero, i.size, i.bytes)) = some (some (.agg #[.int .u8 0, .int .u8 0, .int .u8 0, .int .u8 0, .int .u8 0, .int .u8 0, .int .u8 0, .int .u8 0, .int .i64 0, .int .i64 0]), 10, 24) := by kernel_rfl
  exact elt_mk _ Try.underlying25 h rfl (by decide)
def stL (l : List UInt8) (i : Nat) : Int := 1 + ((l.getD i 0).toNat : Int)
theorem stL_bd (l : List UInt8) (i : Nat) : 1 ≤ stL l i ∧ stL l i ≤ 256 := by
  unfold stL
  have := (l.getD i 0).toNat_lt
  omega
def stV (l : List UInt8) (i : Nat) : List Value := ics ((List.range i).map (stL l))
theorem stV_succ (l : List UInt8) (i : Nat) : stV l (i + 1) = stV l i ++ [.int .i64 (stL l i)] := by
  simp [stV, ics, List.range_succ]
theorem stV_get (l : List UInt8) (i k : Nat) (hk : k < i) : (stV l i)[k]? = some (.int .i64 (stL l k)) := by
  simp [stV, ics, hk]
noncomputable def entA (x : BitVec 64) : Array Value := #[.int .u8 (by8 x 0), .int .u8 (by8 x 1), .int .u8 (by8 x 2), .int .u8 (by8 x 3), .int .u8 (by8 x 4), .int .u8 (by8 x 5), .int .u8 (by8 x 6), .int .u8 (by8 x 7), .int .i64 500, .int .i64 0]
noncomputable def entC (i : Nat) : List Value := (List.range i).flatMap fun j => (entA (kX j)).toList
theorem entC_succ (i : Nat) : entC (i + 1) = entC i ++ (entA (kX i)).toList := by
  simp [entC, List.range_succ]
theorem entC_len (i : Nat) : (entC i).length = i * 10 := by
  induction i with
  | zero => rfl
  | succ i ih =>
    rw [entC_succ, List.length_append, ih]
    simp [entA]
    omega
theorem entC_get (i : Nat) : ∀ k q, k < i → q < 10 → (entC i)[k * 10 + q]? = (entA (kX k))[q]? := by
  induction i with
  | zero => intro k q hk; omega
  | succ i ih =>
    intro k q hk hq
    rw [entC_succ]
    by_cases h : k < i
    · rw [List.getElem?_append_left (by rw [entC_len]; omega)]
      exact ih k q h hq
    · obtain rfl : k = i := by omega
      rw [List.getElem?_append_right (by rw [entC_len]; omega), entC_len, show k * 10 + q - k * 10 = q by omega]
      simp
theorem Row.blk {e : TypeId} {sz r n m cap : Nat} {xs : List Value} {B : List Blk} (h : Row e sz (.slice (some ⟨r, 0, none⟩) n cap) m xs B) : ∃ cur, B = [⟨r, e, cur⟩] := by
  cases h
  exact ⟨_, rfl⟩
theorem field_ent (W : World) (v0 v1 v2 v3 v4 v5 v6 v7 v9 : Value) (m : Int) : (Instr.field 30 (.agg #[v0, v1, v2, v3, v4, v5, v6, v7, .int .i64 m, v9]) 1).run Try.prog W = .ok (.int .i64 m) W := by
  simp [Instr.field, run_underlying Try.underlying30, part, isAgg, run_underlying Try.underlying3, asAgg]
theorem step_oneG {P : Program} {ops : Array Oper} {md : Region.Mode} {Q : Exit → Act → World → Prop} {a : Act} {w : World} {LF : Array Bool} {k n : Nat} {o : Oper} (h1 : Region.ready md ops LF = [k]) (ho : ops[k]? = some o) (hg : Region.wanted o (yielded ops a.tmps) = true)
    (h : ∀ K : Act → World → Prop, (∀ a w, wpAny P md ops Q n (LF.setIfInBounds k true) a w → K a w) → o.wp P a w K Q) : wpAny P md ops Q (n + 1) LF a w := by
  refine ⟨fun h0 => (by rw [h1] at h0; cases h0), fun i hi => ?_⟩
  rw [h1] at hi
  simp at hi
  subst hi
  unfold wpOp
  simp only [ho]
  rw [if_pos hg]
  exact .inl (h _ fun a w hq => hq)
theorem held_ge {F : FU} (h : FOk F) (k : Nat) (hk : k < F.n) : givE F k ≤ heldS F F.n := by
  have key : ∀ m, m ≤ F.n → k < m → givE F k ≤ heldS F m := by
    intro m
    induction m with
    | zero => intro _ h; omega
    | succ m ih =>
      intro hm hkm
      rw [heldS_succ]
      have h0 := h.giv m (by omega)
      by_cases e : k = m
      · subst e
        have := held_bd h k (by omega)
        omega
      · have := ih (by omega) (by omega)
        omega
  exact key F.n (Nat.le_refl _) hk
theorem start_book (n : Nat) (hn : n ≤ 8) (st : Nat → Int) (b : Int) : startM kX n = bookM (newF n st b) := by
  have hg : ∀ k, givE (newF n st b) k = 0 := fun k => by unfold givE newF; simp
  have hh : ∀ m, heldS (newF n st b) m = 0 := by
    intro m
    induction m with
    | zero => rfl
    | succ m ih => rw [heldS_succ, ih, hg]; rfl
  funext x
  unfold startM
  by_cases h : anyK kX n x = true
  · rw [if_pos h]
    obtain ⟨j, hj, rfl⟩ := (anyK_iff _ _ _).1 h
    rw [bookM_key (F := newF n st b) hn j hj, hg]; rfl
  · rw [if_neg h]
    by_cases hx : x = goalX
    · rw [hx, bookM_goal (F := newF n st b) hn, hh]
    · rw [bookM_none (F := newF n st b) hn x hx (fun i hi e => h ((anyK_iff _ _ _).2 ⟨i, hi, e⟩))]
theorem newF_ok (n : Nat) (h2 : 2 ≤ n) (h5 : n ≤ 5) (l : List UInt8) (b : Int) : FOk (newF n (stL l) b) :=
  ⟨h2, h5, fun k hk => by
    show 1 ≤ (if k < n then stL l k else 0) ∧ (if k < n then stL l k else 0) ≤ 256
    have hk' : k < n := hk
    rw [if_pos hk']; exact stL_bd l k, fun k _ => rfl⟩
theorem newF_full (n : Nat) (h2 : 2 ≤ n) (h5 : n ≤ 5) (l : List UInt8) (b : Int) : fullB (newF n (stL l) b) = false := by
  rw [← Bool.not_eq_true, (newF_ok n h2 h5 l b).full_iff]
  intro a
  have := a 0 (by show 0 < n; omega)
  cases this
/-- What is done with the fund. -/
structure LayV where
  seat : Nat
  back : Bool
  later : Nat
instance : Inhabited LayV := ⟨⟨0, false, 0⟩⟩
def LayV.cells (o : LayV) : List Value := [.int .u8 o.seat, .bool o.back, .int .u8 o.later]
set_option maxRecDepth 100000 in
set_option maxHeartbeats 400000000 in
theorem wholeFund_any (v1 : Value) (l : List UInt8) (b : Nat) (hb255 : b ≤ 255) (v3 : Value) (n3 : Nat) (D : Nat → LayV) (w : World) (hl : l.length ≤ maxLen) (hv1 : BSl w v1 l) (hn3 : n3 ≤ maxLen) (hv3 : Rws w v3 n3 3 (fun i => (D i).cells)) (hD : ∀ i, i < n3 → (D i).seat ≤ 255 ∧ (D i).later ≤ 255) :
    Calls Try.prog 3 #[v1, .int .u8 b, v3] w fun e w' => e = .returned (.bool true) ∧ Below w.heap.size w w' := by
  obtain ⟨ao3, cap3, rfl, hcap3, hnil3⟩ := hv3.slice
  have HV1 := Lib.hid hv1
  obtain ⟨ao1, cap1, rfl, hao1, hrow1⟩ := hv1
  have HR1 := Lib.hid hrow1
  have HV3 := Lib.hid hv3
  have HD := Lib.hid hD
  have hml1 : l.length ≤ 9223372036854775807 := by unfold maxLen at hl; omega
  have hml3 : n3 ≤ 9223372036854775807 := by unfold maxLen at hn3; omega
  have hcap1 : l.length ≤ cap1 := hao1.1
  clear hrow1 hv3 hD hl hn3 hao1
  go_enter Try.func3, Try.ntmps3
  go_upto_block 0 with fail
  go_cut [7, 8, 9] from 27 to 51 (fun v7 v8 vi wc => ∃ (n : Nat) (B1 B2 : List Blk), vi = .int .i64 n ∧ n ≤ l.length ∧ n ≤ 5 ∧ Row 3 1 v7 n (stV l n) B1 ∧ Row 30 10 v8 n (entC n) B2 ∧ Ow wc w (B1 ++ B2))
  case first =>

      go_wp2_with fail
      go_loopw [7, 8, 9] (fun v7 v8 vi wr => ∃ (i : Nat) (B1 B2 : List Blk), vi = .int .i64 i ∧ i ≤ l.length ∧ i ≤ 5 ∧ Row 3 1 v7 i (stV l i) B1 ∧ Row 30 10 v8 i (entC i) B2 ∧ Ow wr w (B1 ++ B2)) (fun _ _ vi _ => 5 - (intOf vi).toNat)
      case atStart => exact ⟨0, [], [], rfl, by omega, by omega, .void, .void, Ow.start w⟩
      case round =>
        obtain ⟨i, B1, B2, rfl, hi, hi5, R1, R2, O⟩ := hrel
        have HR1' := Lib.hid R1
        have HR2' := Lib.hid R2
        have HO := Lib.hid O
        by_cases hgo : i < l.length ∧ i < 5
        · obtain ⟨hlt, hlt5⟩ := hgo
          obtain ⟨r, o, rfl, hr, hc⟩ : ∃ r o, ao1 = some ⟨r, o, none⟩ ∧ r < w.heap.size ∧ ∀ j, j < l.length → w.cell? ⟨r, o + j, none⟩ = some (.int .u8 (((l.getD j 0).toNat : Nat) : Int)) := by
            rcases HR1.out with h | ⟨r, o, h1, h2, h3⟩
            · omega
            · exact ⟨r, o, h1, h2, h3⟩
          have hci := hc i hlt
          rw [← O.old hr] at hci
          have hri : r < wr.heap.size := Nat.lt_of_lt_of_le hr O.mem.size
          obtain ⟨z, hz⟩ : ∃ z : Nat, (l.getD i 0).toNat = z := ⟨_, rfl⟩
          have hzb : z ≤ 255 := by have := (l.getD i 0).toNat_lt; omega
          have HST : Hid (stL l i = 1 + (z : Int)) := by show _ = _; unfold stL; rw [hz]
          rw [hz] at hci
          obtain ⟨a7, c7, rfl⟩ := R1.slice
          obtain ⟨a8, c8, rfl⟩ := R2.slice
          have T := fun W => key_to i (by omega) W
          clear hc R1 R2 O hz
          go_wp2_with (at_builtin; refine HO.out.appendNew rfl (.tmp 37) (.tmp 44) 24 rfl elt_int (by rfl) HR1'.out #[.int .i64 (1 + (z : Int))] _ _ 1 1 (by rfl) (by simp) (by rfl) (by simp [Value.oneCell']) (by unfold maxLen; omega) (by omega) (i + 1) rfl (stV l (i + 1)) (by rw [stV_succ, HST.out]) (fun ao' cap' B' w7 R7 O7 => ?_); (have HR7 := Lib.hid R7); (have HO7 := Lib.hid O7); clear R7 O7)
          refine (T _).mono ?_
          rintro e w8 ⟨rfl, hb8⟩
          have HO8 := Lib.hid ((HO7.out.of_below hb8).perm (L' := B2 ++ B') (perm_cnt fun x => by simp only [cnt_append, cnt_cons, cnt_nil] <;> omega))
          obtain ⟨x, HX⟩ : ∃ x, Hid (kX i = x) := ⟨_, rfl⟩
          rw [HX.out]
          clear hb8 HO7 HO T
          go_wp2_with (at_builtin; refine HO8.out.appendNew rfl (.tmp 46) (.tmp 50) 25 rfl elt_ent (by rfl) HR2'.out #[.int .u8 (by8 x 0), .int .u8 (by8 x 1), .int .u8 (by8 x 2), .int .u8 (by8 x 3), .int .u8 (by8 x 4), .int .u8 (by8 x 5), .int .u8 (by8 x 6), .int .u8 (by8 x 7), .int .i64 500, .int .i64 0] _ _ 1 1 (by rfl) (by simp) (by rfl) (by simp [Value.oneCell']) (by unfold maxLen; omega) (by omega) (i + 1) rfl (entC (i + 1)) (by rw [entC_succ, HX.out]; rfl) (fun ao'' cap'' B'' w9 R9 O9 => ?_); (have HR9 := Lib.hid R9); (have HO9 := Lib.hid O9); clear R9 O9)
          exact ⟨⟨i + 1, B', B'', by simp, by omega, by omega, HR7.out, HR9.out, HO9.out.perm (perm_cnt fun x => by simp only [cnt_append, cnt_cons, cnt_nil] <;> omega)⟩, by simp [intOf]; omega⟩
        · have hgoe : ¬ i < l.length ∨ (i < l.length ∧ ¬ i < 5) := by omega
          clear O R1 R2
          rcases hgoe with hd1 | ⟨hd1, hd2⟩
          · go_wp2_with fail
            go_meet
            exact ⟨i, B1, B2, rfl, hi, hi5, HR1'.out, HR2'.out, HO.out⟩
          · go_wp2_with fail
            go_meet
            exact ⟨i, B1, B2, rfl, hi, hi5, HR1'.out, HR2'.out, HO.out⟩
  case rest =>

      obtain ⟨n, B1, B2, rfl, hi, hi5, R1, R2, O⟩ := hcut
      have HR1' := Lib.hid R1
      have HR2' := Lib.hid R2
      have HO := Lib.hid O
      clear O R1 R2
      obtain ⟨a7, c7, rfl⟩ := HR1'.out.slice
      obtain ⟨a8, c8, rfl⟩ := HR2'.out.slice
      by_cases hn2 : n < 2
      · first
          | (exfalso; omega)
          | (go_wp2_with fail
             refine (awake_to _).mono ?_
             rintro e w2 ⟨rfl, hb2⟩
             have HB := Lib.hid (HO.out.of_below hb2).below
             clear hb2 HO
             go_wp2
             go_ret
             exact ⟨rfl, HB.out⟩)
      · obtain ⟨r1, c1, e1, hc1, hr1, hcell1⟩ := HR1'.out.openP HO.out.mem (by omega)
        cases e1
        obtain ⟨cur1, rfl⟩ := HR1'.out.blk
        have HOWN : Hid (∀ W, HasBlk W r1 3 cur1 → ∀ k, k < n → W.cell? ⟨r1, k, none⟩ = some (.int .i64 (stL l k))) := fun W hW k hk => by
          rw [hW.cell, ← (HO.out.has (b := r1) (List.mem_cons_self ..)).cell k]
          exact hcell1 k _ (stV_get l n k hk)
        have O' := HO.out.perm (L' := B2 ++ [⟨r1, 3, cur1⟩]) (perm_cnt fun x => by simp only [cnt_append, cnt_cons, cnt_nil] <;> omega)
        obtain ⟨r2, c2, e2, hc2, hr2, hcell2⟩ := HR2'.out.openP O'.mem (by omega)
        cases e2
        obtain ⟨cur2, rfl⟩ := HR2'.out.blk
        have HENT : Hid (∀ W, HasBlk W r2 30 cur2 → ∀ k, k < n → ∀ j u, (#[.int .u8 (by8 (kX k) 0), .int .u8 (by8 (kX k) 1), .int .u8 (by8 (kX k) 2), .int .u8 (by8 (kX k) 3), .int .u8 (by8 (kX k) 4), .int .u8 (by8 (kX k) 5), .int .u8 (by8 (kX k) 6), .int .u8 (by8 (kX k) 7), .int .i64 500, .int .i64 0] : Array Value)[j]? = some u → W.cell? ⟨r2, k * 10 + j, none⟩ = some u) := fun W hW k hk j u hu => by
          have hj : j < 10 := (Array.getElem?_eq_some_iff.1 hu).1
          rw [hW.cell, ← (O'.has (b := r2) (List.mem_cons_self ..)).cell (k * 10 + j)]
          exact hcell2 _ u (by rw [entC_get n k j hk hj]; exact hu)
        have HO' := Lib.hid O'
        clear O' hcell1 hcell2 HR1' HR2' HO HR1 HV1 hr1 hr2
        go_wp2_with fail
        refine (fromNum_lit goalX 1 nv_goal _).mono ?_
        rintro e w2 ⟨rfl, hb2⟩
        have HO2 := Lib.hid ((HO'.out.of_below hb2).key #[.int .u8 (by8 goalX 0), .int .u8 (by8 goalX 1), .int .u8 (by8 goalX 2), .int .u8 (by8 goalX 3), .int .u8 (by8 goalX 4), .int .u8 (by8 goalX 5), .int .u8 (by8 goalX 6), .int .u8 (by8 goalX 7)] 27 w2.heap.size rfl)
        clear hb2 HO'
        go_wp2_with fail
        obtain ⟨bg, hbg⟩ : ∃ bg, bg = w2.heap.size := ⟨_, rfl⟩
        simp only [← hbg] at HO2 ⊢
        clear hbg
        have HOm : Hid (Omw _ w [⟨bg, 27, #[.int .u8 (by8 goalX 0), .int .u8 (by8 goalX 1), .int .u8 (by8 goalX 2), .int .u8 (by8 goalX 3), .int .u8 (by8 goalX 4), .int .u8 (by8 goalX 5), .int .u8 (by8 goalX 6), .int .u8 (by8 goalX 7)]⟩, ⟨r2, 30, cur2⟩, ⟨r1, 3, cur1⟩] []) := ⟨HO2.out, by simp, by simp, by simp, .nil⟩
        refine (fnew_ok r1 n c7 (stL l) b _ w _ [] HOm.out (by omega) (by omega) hc1 (HOm.out.blk (b := r1) (t := 3) (cs := cur1) (by simp)).lt (HOWN.out _ (HOm.out.blk (b := r1) (t := 3) (cs := cur1) (by simp))) (fun k hk => by have := stL_bd l k; omega) (by omega)).mono ?_
        rintro e w4 ⟨pf, rfl, O4⟩
        have HO4 := Lib.hid O4
        clear O4 HOm HO2
        go_wp2_with fail
        refine (anew_ok r2 n c8 kX _ w _ [] HO4.out (by omega) hc2 (HO4.out.blk (b := r2) (t := 30) (cs := cur2) (by simp)).lt (fun W hW => ⟨HasBlk.lt (hW ⟨r2, 30, cur2⟩ (by simp)), fun k hk j u hu => HENT.out W (hW ⟨r2, 30, cur2⟩ (by simp)) k hk j u hu⟩) (fun x y hx hy h => kX_inj (by omega) (by omega) h)).mono ?_
        rintro e w5 ⟨pb, rfl, B5⟩
        rw [start_book n (by omega) (stL l) b] at B5
        obtain ⟨BB, hBB⟩ : ∃ BB : List Blk, BB = [⟨bg, 27, #[.int .u8 (by8 goalX 0), .int .u8 (by8 goalX 1), .int .u8 (by8 goalX 2), .int .u8 (by8 goalX 3), .int .u8 (by8 goalX 4), .int .u8 (by8 goalX 5), .int .u8 (by8 goalX 6), .int .u8 (by8 goalX 7)]⟩, ⟨r2, 30, cur2⟩, ⟨r1, 3, cur1⟩] := ⟨_, rfl⟩
        have HMg : Hid ((⟨bg, 27, #[.int .u8 (by8 goalX 0), .int .u8 (by8 goalX 1), .int .u8 (by8 goalX 2), .int .u8 (by8 goalX 3), .int .u8 (by8 goalX 4), .int .u8 (by8 goalX 5), .int .u8 (by8 goalX 6), .int .u8 (by8 goalX 7)]⟩ : Blk) ∈ BB) := by rw [hBB]; show _ ∈ _; simp
        have HM1 : Hid ((⟨r1, 3, cur1⟩ : Blk) ∈ BB) := by rw [hBB]; show _ ∈ _; simp
        rw [← hBB] at B5
        have HB5 := Lib.hid B5
        clear hBB B5 HO4 HENT
        have HF0 : Hid (FOk (newF n (stL l) b)) := newF_ok n (by omega) hi5 l b
        have hfull0 : fullB (newF n (stL l) b) = false := newF_full n (by omega) hi5 l b
        go_wp2_with fail
        obtain ⟨F0, hF0⟩ : ∃ F0, F0 = newF n (stL l) b := ⟨_, rfl⟩
        have hn0 : F0.n = n := by rw [hF0]; rfl
        have hst0 : ∀ k, k < n → F0.st k = stL l k := fun k hk => by rw [hF0]; show (if k < n then _ else _) = _; rw [if_pos hk]
        rw [← hF0] at HB5 HF0 hfull0
        clear hF0
        go_loopw [15, 16, 17] (fun v15 v16 vi wr_ => ∃ (k nw : Nat) (F : FU), vi = .int .i64 k ∧ k ≤ n3 ∧ k ≤ 30 ∧ v15 = .int .i64 nw ∧ nw ≤ 20 * k ∧ v16 = .bool (fullB F) ∧ FOk F ∧ F.n = n ∧ (∀ j, j < n → F.st j = stL l j) ∧ Bk wr_ w (⟨pf, 57, fcs F⟩ :: BB) [] pb (bookM F)) (fun _ _ vi _ => 30 - (intOf vi).toNat)
        case atStart => exact ⟨0, 0, F0, rfl, by omega, by omega, rfl, by omega, by rw [hfull0], HF0.out, hn0, hst0, HB5.out⟩
        case round =>
          obtain ⟨k, nw, F, rfl, hk, hk30, rfl, hnw, h16, hF, hFn, hFst, B6⟩ := hrel
          obtain ⟨fb, HFB⟩ : ∃ fb, Hid (fullB F = fb) := ⟨_, rfl⟩
          rw [HFB.out] at h16
          subst h16
          have HF := Lib.hid hF
          have HFst := Lib.hid hFst
          have HB6 := Lib.hid B6
          clear hF hFst B6 HB5 HF0 hfull0 hn0 hst0
          by_cases hgo2 : k < n3 ∧ k < 30
          · obtain ⟨hlt3, hlt30⟩ := hgo2
            obtain ⟨m0, es0, ck0, O6, -⟩ := HB6.out
            obtain ⟨r3, o3, e3, hr3, hc3⟩ := HV3.out.at_ O6.ow k hlt3
            subst e3
            obtain ⟨hD1, hD2⟩ := HD.out k hlt3
            obtain ⟨⟨sea, bk, la⟩, HDk⟩ : ∃ y, Hid (D k = y) := ⟨_, rfl⟩
            rw [HDk.out] at hc3 hD1 hD2
            have d0 : wr.cell? ⟨r3, o3 + k * 3, none⟩ = some (.int .u8 sea) := hc3 0 _ rfl
            have d1 : wr.cell? ⟨r3, o3 + k * 3 + 1, none⟩ = some (.bool bk) := by rw [Nat.add_assoc]; exact hc3 1 _ rfl
            have d2 : wr.cell? ⟨r3, o3 + k * 3 + 2, none⟩ = some (.int .u8 la) := by rw [Nat.add_assoc]; exact hc3 2 _ rfl
            clear hc3 O6
            simp only at hD1 hD2
            obtain ⟨s, hsE, hsn⟩ : ∃ s : Nat, ((sea : Int) % (n : Int)) = (s : Int) ∧ s < n := ⟨sea % n, by omega, Nat.mod_lt _ (by omega)⟩
            obtain ⟨nw2, hnE, hnw2⟩ : ∃ m : Nat, ((nw : Int) + (la : Int) % 20) = (m : Int) ∧ m ≤ 20 * (k + 1) := ⟨nw + la % 20, by omega, by omega⟩
            have hs8 : s ≤ 8 := by omega
            have hbF : HasBlk wr pf 57 (fcs F) := HB6.out.has (List.mem_cons_self ..)
            have HBF := Lib.hid hbF
            have hF8 : F.n ≤ 8 := by omega
            have hstb := stL_bd l s
            have hsF : s < F.n := by omega
            clear hbF
            go_upto_if 115 with fail
            go_cut [15, 16, 18, 19, 20] from 83 to 246 (fun v15 v16 v18 v19 v20 wc => ∃ F' : FU, v15 = .int .i64 nw2 ∧ v16 = .bool fb ∧ FOk F' ∧ F'.n = n ∧ (∀ j, j < n → F'.st j = stL l j) ∧ (fb = true → fullB F' = true) ∧ Bk wc w (⟨pf, 57, fcs F'⟩ :: BB) [] pb (bookM F'))
            case first =>

                cases bk with
                | true =>
                  cases hls : F.ld s with
                  | false =>
                    have T := back_to pf s F wr nw2 HBF.out hF8 hsF 0 9 (by unfold backE; rw [if_pos hls])
                    cases fb with
                    | true =>
                      go_wp2_with fail
                      refine T.mono ?_
                      rintro e w7 ⟨rfl, w7', hb7, hw7⟩
                      rw [if_neg (by omega)] at hw7
                      subst hw7
                      have HB7 := Lib.hid (HB6.out.of_below hb7)
                      clear hb7 HB6 T
                      go_wp2_with fail
                      refine wp_region_rq (by kernel_rfl) (by kernel_rfl) (by kernel_rfl) ?_
                      repeat (first
                        | (refine B_skip ?_ ?_; (· rfl); (try simp only [Act.put, List.setIfInBounds_toArray, List.set_cons_zero, List.set_cons_succ]))
                        | (refine B_move rfl ?_ ?_; (· rfl); (try simp only [Act.eval, Act.put, Array.getD_eq_getD_getElem?, List.getElem?_toArray, List.getElem?_cons_succ, List.getElem?_cons_zero, Option.getD_some, List.setIfInBounds_toArray, List.set_cons_zero, List.set_cons_succ]))
                        | (refine B_plain ?_ ?_; (· rfl); intro K hK; go_big_quiet_op; with_reducible refine hK _ ?_; clear hK K)
                        | (refine B_nilck rfl rfl ?_ ?_; (· rfl); (try simp only [Act.put, List.setIfInBounds_toArray, List.set_cons_zero, List.set_cons_succ])))
                      refine B_nil ?_ rfl ?_ ?_
                      · kernel_rfl
                      · rfl
                      rintro _ ⟨⟨g25, d25⟩, rfl⟩
                      simp only [fin, Act.put, List.setIfInBounds_toArray, List.set_cons_zero, List.set_cons_succ]
                      go_wp2_with fail
                      go_meet
                      exact ⟨F, rfl, rfl, HF.out, hFn, HFst.out, fun _ => HFB.out, HB7.out.plus _ _⟩
                    | false =>
                      go_wp2_with fail
                      refine T.mono ?_
                      rintro e w7 ⟨rfl, w7', hb7, hw7⟩
                      rw [if_neg (by omega)] at hw7
                      subst hw7
                      have HB7 := Lib.hid (HB6.out.of_below hb7)
                      clear hb7 HB6 T
                      go_wp2_with fail
                      refine wp_region_rq (by kernel_rfl) (by kernel_rfl) (by kernel_rfl) ?_
                      repeat (first
                        | (refine B_skip ?_ ?_; (· rfl); (try simp only [Act.put, List.setIfInBounds_toArray, List.set_cons_zero, List.set_cons_succ]))
                        | (refine B_move rfl ?_ ?_; (· rfl); (try simp only [Act.eval, Act.put, Array.getD_eq_getD_getElem?, List.getElem?_toArray, List.getElem?_cons_succ, List.getElem?_cons_zero, Option.getD_some, List.setIfInBounds_toArray, List.set_cons_zero, List.set_cons_succ]))
                        | (refine B_plain ?_ ?_; (· rfl); intro K hK; go_big_quiet_op; with_reducible refine hK _ ?_; clear hK K)
                        | (refine B_nilck rfl rfl ?_ ?_; (· rfl); (try simp only [Act.put, List.setIfInBounds_toArray, List.set_cons_zero, List.set_cons_succ])))
                      refine B_nil ?_ rfl ?_ ?_
                      · kernel_rfl
                      · rfl
                      rintro _ ⟨⟨g25, d25⟩, rfl⟩
                      simp only [fin, Act.put, List.setIfInBounds_toArray, List.set_cons_zero, List.set_cons_succ]
                      go_wp2_with fail
                      go_meet
                      exact ⟨F, rfl, rfl, HF.out, hFn, HFst.out, fun h => (by cases h), HB7.out.plus _ _⟩
                  | true =>
                    cases fb with
                    | true =>
                      have T := back_to pf s F wr nw2 HBF.out hF8 hsF 0 10 (by unfold backE; rw [if_neg (by rw [hls]; simp), if_pos HFB.out])
                      go_wp2_with fail
                      refine T.mono ?_
                      rintro e w7 ⟨rfl, w7', hb7, hw7⟩
                      rw [if_neg (by omega)] at hw7
                      subst hw7
                      have HB7 := Lib.hid (HB6.out.of_below hb7)
                      clear hb7 HB6 T
                      go_wp2_with fail
                      refine wp_region_rq (by kernel_rfl) (by kernel_rfl) (by kernel_rfl) ?_
                      repeat (first
                        | (refine B_skip ?_ ?_; (· rfl); (try simp only [Act.put, List.setIfInBounds_toArray, List.set_cons_zero, List.set_cons_succ]))
                        | (refine B_move rfl ?_ ?_; (· rfl); (try simp only [Act.eval, Act.put, Array.getD_eq_getD_getElem?, List.getElem?_toArray, List.getElem?_cons_succ, List.getElem?_cons_zero, Option.getD_some, List.setIfInBounds_toArray, List.set_cons_zero, List.set_cons_succ]))
                        | (refine B_plain ?_ ?_; (· rfl); intro K hK; go_big_quiet_op; with_reducible refine hK _ ?_; clear hK K)
                        | (refine B_nilck rfl rfl ?_ ?_; (· rfl); (try simp only [Act.put, List.setIfInBounds_toArray, List.set_cons_zero, List.set_cons_succ])))
                      refine B_nil ?_ rfl ?_ ?_
                      · kernel_rfl
                      · rfl
                      rintro _ ⟨⟨g25, d25⟩, rfl⟩
                      simp only [fin, Act.put, List.setIfInBounds_toArray, List.set_cons_zero, List.set_cons_succ]
                      go_wp2_with fail
                      go_meet
                      exact ⟨F, rfl, rfl, HF.out, hFn, HFst.out, fun _ => HFB.out, HB7.out.plus _ _⟩
                    | false =>
                      obtain ⟨z, hz⟩ : ∃ z : Nat, F.st s = (z : Int) := ⟨(F.st s).toNat, by have := HF.out.st s hsF; omega⟩
                      have T := back_to pf s F wr nw2 HBF.out hF8 hsF z 0 (by unfold backE; rw [if_neg (by rw [hls]; simp), if_neg (by rw [HFB.out]; simp), hz])
                      have hzb : 1 ≤ z ∧ z ≤ 256 := by have := HF.out.st s hsF; omega
                      have HMV : Hid ((z : Int) ≤ bookM F goalX ∧ bookM F goalX ≤ 1000000 ∧ 0 ≤ bookM F (kX s) ∧ bookM F (kX s) ≤ 1000000 ∧ updM (updM (bookM F) goalX (bookM F goalX - z)) (kX s) (bookM F (kX s) + z) = bookM (F.lay s false)) := by
                        have h1 := move_back F hF8 s hsF hls
                        rw [hz] at h1
                        have h2 := held_bd HF.out F.n (Nat.le_refl _)
                        have h3 := HF.out.giv s hsF
                        have h4 : givE F s = z := by unfold givE; rw [if_pos hls, hz]
                        have h5 := held_ge HF.out s hsF
                        rw [bookM_goal hF8, bookM_key hF8 s hsF] at *
                        refine ⟨by omega, by omega, by omega, by omega, h1⟩
                      go_wp2_with fail
                      refine T.mono ?_
                      rintro e w7 ⟨rfl, w7', hb7, hw7⟩
                      simp only [if_true] at hw7
                      have B8 := (HB6.out.of_below hb7).set (9 + s) (.bool false)
                      rw [fcs_lay F s (by omega) false, ← hw7] at B8
                      have HB8 := Lib.hid B8
                      clear hb7 HB6 T B8 hw7
                      go_wp2_with fail
                      have hbg := HB8.out.has (List.mem_cons_of_mem _ HMg.out)
                      (have g0 := hbg.cell 0); (have g1 := hbg.cell 1); (have g2 := hbg.cell 2); (have g3 := hbg.cell 3); (have g4 := hbg.cell 4); (have g5 := hbg.cell 5); (have g6 := hbg.cell 6); (have g7 := hbg.cell 7)
                      have lg := hbg.lt
                      simp only [List.getElem?_toArray, List.getElem?_cons_succ, List.getElem?_cons_zero] at g0 g1 g2 g3 g4 g5 g6 g7
                      clear hbg
                      refine wp_region_rc 8 3 (by kernel_rfl) (by kernel_rfl) (by kernel_rfl) (by kernel_rfl) ?_
                      simp only [List.take_succ_cons, List.take_zero]
                      repeat (first
                        | (refine B_skip ?_ ?_; (· rfl); (try simp only [Act.put, List.setIfInBounds_toArray, List.set_cons_zero, List.set_cons_succ]))
                        | (refine B_move rfl ?_ ?_; (· rfl); (try simp only [Act.eval, Act.put, Array.getD_eq_getD_getElem?, List.getElem?_toArray, List.getElem?_cons_succ, List.getElem?_cons_zero, Option.getD_some, List.setIfInBounds_toArray, List.set_cons_zero, List.set_cons_succ]))
                        | (refine B_plain ?_ ?_; (· rfl); intro K hK; go_big_quiet_op; with_reducible refine hK _ ?_; clear hK K)
                        | (refine B_callX (v := ?_) (f := 4) rfl (by kernel_rfl) ?_ (fun xq => ?_) ?_; rotate_left; (· rfl); (· ((simp only [List.map_toArray, List.map_cons, List.map_nil, Act.eval, Array.getD_eq_getD_getElem?, List.getElem?_toArray, List.getElem?_cons_succ, List.getElem?_cons_zero, Option.getD_some]); with_reducible apply retB; with_reducible exact (key_to s hs8 _))); (try simp only [Act.put, List.setIfInBounds_toArray, List.set_cons_zero, List.set_cons_succ])))
                      refine B_nil ?_ rfl ?_ ?_
                      · kernel_rfl
                      · rfl
                      rintro _ ⟨⟨g25, d25⟩, rfl⟩
                      simp only [fin, Act.put, List.setIfInBounds_toArray, List.set_cons_zero, List.set_cons_succ]
                      refine step_oneG (n := 2) (k := 8) (by kernel_rfl) (by rfl) (by rfl) ?_
                      intro K hK
                      refine wp_call_in 10 (by rfl) (by kernel_rfl) #[ptr pb, .agg #[.int .u8 (by8 goalX 0), .int .u8 (by8 goalX 1), .int .u8 (by8 goalX 2), .int .u8 (by8 goalX 3), .int .u8 (by8 goalX 4), .int .u8 (by8 goalX 5), .int .u8 (by8 goalX 6), .int .u8 (by8 goalX 7)], .agg #[.int .u8 (by8 (kX s) 0), .int .u8 (by8 (kX s) 1), .int .u8 (by8 (kX s) 2), .int .u8 (by8 (kX s) 3), .int .u8 (by8 (kX s) 4), .int .u8 (by8 (kX s) 5), .int .u8 (by8 (kX s) 6), .int .u8 (by8 (kX s) 7)], .int .i64 z] (by (simp only [List.map_toArray, List.map_cons, List.map_nil, Act.eval, Array.getD_eq_getD_getElem?, List.getElem?_toArray, List.getElem?_cons_succ, List.getElem?_cons_zero, Option.getD_some])) ((move_ok pb goalX (kX s) z (fun h => kX_goal s hs8 h.symm) _ w _ [] (bookM F) (HB8.out.plus g25 d25) (by omega) HMV.out.1 HMV.out.2.1 HMV.out.2.2.1 HMV.out.2.2.2.1 (bookM (F.lay s false)) HMV.out.2.2.2.2).mono ?_)
                      rintro e W4 ⟨rfl, B9⟩
                      have HB9 := Lib.hid B9
                      refine ⟨_, rfl, hK _ _ ?_⟩
                      clear hK K B9 HB8 g0 g1 g2 g3 g4 g5 g6 g7 lg
                      simp only [Act.put, List.setIfInBounds_toArray, List.set_cons_zero, List.set_cons_succ]
                      refine step_oneG (n := 1) (k := 9) (by kernel_rfl) (by rfl) (by rfl) ?_
                      intro K hK
                      go_simp
                      refine hK _ _ ?_
                      clear hK K
                      refine last_one (k := 10) (by kernel_rfl) (by kernel_rfl) (by rfl) ?_ ?_
                      · rfl
                      intro K hK
                      go_simp
                      refine hK _ _ ?_
                      clear hK K
                      go_wp2_with fail
                      go_meet
                      exact ⟨F.lay s false, rfl, rfl, HF.out.lay hsF false, hFn, HFst.out, fun h => (by cases h), HB9.out⟩
                | false =>
                  obtain ⟨z, hz⟩ : ∃ z : Nat, F.st s = (z : Int) := ⟨(F.st s).toNat, by have := HF.out.st s hsF; omega⟩
                  have hzb : 1 ≤ z ∧ z ≤ 256 := by have := HF.out.st s hsF; omega
                  have hzl : stL l s = (z : Int) := by rw [← HFst.out s hsn, hz]
                  obtain ⟨E, HE⟩ : ∃ E, Hid (layE F s z nw2 = E) := ⟨_, rfl⟩
                  by_cases hE0 : E = 0
                  ·
                      subst hE0
                      have hls : F.ld s = false := by
                        have h0 := HE.out
                        unfold layE at h0
                        split at h0
                        · omega
                        split at h0
                        · omega
                        rename_i hh
                        simpa using hh
                      have hfb : fb = false := by
                        cases fb with
                        | false => rfl
                        | true =>
                          have := (HF.out.full_iff.1 HFB.out) s hsF
                          rw [hls] at this
                          cases this
                      subst hfb
                      have HMV : Hid ((z : Int) ≤ bookM F (kX s) ∧ bookM F (kX s) ≤ 1000000 ∧ 0 ≤ bookM F goalX ∧ bookM F goalX ≤ 1000000 ∧ updM (updM (bookM F) (kX s) (bookM F (kX s) - z)) goalX (bookM F goalX + z) = bookM (F.lay s true)) := by
                        have h1 := move_lay F hF8 s hsF hls
                        rw [hz] at h1
                        have h2 := held_bd HF.out F.n (Nat.le_refl _)
                        have h4 : givE F s = 0 := by unfold givE; rw [if_neg (by rw [hls]; simp)]
                        rw [bookM_goal hF8, bookM_key hF8 s hsF] at *
                        refine ⟨by omega, by omega, by omega, by omega, h1⟩
                      clear hz
                      go_wp2_with fail
                      refine wp_region_o2 [146, 147, 148, 149, 150, 151, 152, 153, 154, 155, 156, 157, 158, 159, 160, 161, 162, 163, 164, 165, 166] (fun L (_ : Unit) => [(L 0, 146, ptr pf), (L 1, 147, .int .i64 s), (L 2, 148, .slice (some ⟨r1, 0, none⟩) n c7), (L 3, 149, .int .i64 s), (L 4, 150, .pointer (some ⟨r1, s, none⟩)), (L 5, 151, .int .i64 z), (L 6, 152, .int .i64 nw2), (L 7, 153, .int .i64 0), (L 8, 154, .bool true), (L 9, 155, .bool true), (L 10, 156, ptr pb), (L 11, 157, .int .i64 s), (L 12, 158, .agg #[.int .u8 (by8 (kX s) 0), .int .u8 (by8 (kX s) 1), .int .u8 (by8 (kX s) 2), .int .u8 (by8 (kX s) 3), .int .u8 (by8 (kX s) 4), .int .u8 (by8 (kX s) 5), .int .u8 (by8 (kX s) 6), .int .u8 (by8 (kX s) 7)]), (L 13, 159, .agg #[.int .u8 (by8 goalX 0), .int .u8 (by8 goalX 1), .int .u8 (by8 goalX 2), .int .u8 (by8 goalX 3), .int .u8 (by8 goalX 4), .int .u8 (by8 goalX 5), .int .u8 (by8 goalX 6), .int .u8 (by8 goalX 7)]), (L 14, 160, .slice (some ⟨r1, 0, none⟩) n c7), (L 15, 161, .int .i64 s), (L 16, 162, .pointer (some ⟨r1, s, none⟩)), (L 17, 163, .int .i64 z), (L 18, 164, .int .i64 0), (L 19, 165, .bool false), (L 20, 166, .bool false)])
                        (fun L _ W => Bk W w (⟨pf, 57, fcs (bif L 7 then F.lay s true else F)⟩ :: BB) [] pb (bif L 18 then bookM (F.lay s true) else bookM F)) () (by kernel_rfl) (by kernel_rfl) 248 (by rfl) (fun _ _ => rfl) (by kernel_rfl) (by kernel_rfl) (by kernel_rfl) (by rfl) HB6.out.drew ?_ ⟨?_, ?_, ?_, ?_, ?_, ?_, ?_, ?_, ?_, ?_, ?_, ?_, ?_, ?_, ?_, ?_, ?_, ?_, ?_, ?_, ?_, trivial⟩
                      rotate_left
                      · (intro L x W hW hC hL hd B K hB hK; (try simp [depsB, Region.binds] at hd); (try simp only [Nat.reduceAdd] at hK hL); (have e11 := hB.out 11); (simp (decide := true) only [look, if_true, if_false, hd, cond_true, cond_false, Array.getD_eq_getD_getElem?, List.getElem?_toArray, List.getElem?_cons_succ, List.getElem?_cons_zero, Option.getD_some] at e11); go_simp; exact hK.out (ptr pf) () W (by simp (decide := true) [putO, setF, upd]) hW)
                      · (intro L x W hW hC hL hd B K hB hK; (try simp [depsB, Region.binds] at hd); (try simp only [Nat.reduceAdd] at hK hL); (have e18 := hB.out 18); (simp (decide := true) only [look, if_true, if_false, hd, cond_true, cond_false, Array.getD_eq_getD_getElem?, List.getElem?_toArray, List.getElem?_cons_succ, List.getElem?_cons_zero, Option.getD_some] at e18); go_simp; exact hK.out (.int .i64 s) () W (by simp (decide := true) [putO, setF, upd]) hW)
                      · (intro L x W hW hC hL hd B K hB hK; (try simp [depsB, Region.binds] at hd); (try simp only [Nat.reduceAdd] at hK hL); (have e7 := hB.out 7); (simp (decide := true) only [look, if_true, if_false, hd, cond_true, cond_false, Array.getD_eq_getD_getElem?, List.getElem?_toArray, List.getElem?_cons_succ, List.getElem?_cons_zero, Option.getD_some] at e7); go_simp; exact hK.out (.slice (some ⟨r1, 0, none⟩) n c7) () W (by simp (decide := true) [putO, setF, upd]) hW)
                      · (intro L x W hW hC hL hd B K hB hK; (try simp [depsB, Region.binds] at hd); (try simp only [Nat.reduceAdd] at hK hL); (have e18 := hB.out 18); (simp (decide := true) only [look, if_true, if_false, hd, cond_true, cond_false, Array.getD_eq_getD_getElem?, List.getElem?_toArray, List.getElem?_cons_succ, List.getElem?_cons_zero, Option.getD_some] at e18); go_simp; exact hK.out (.int .i64 s) () W (by simp (decide := true) [putO, setF, upd]) hW)
                      · (intro L x W hW hC hL hd B K hB hK; (try simp [depsB, Region.binds] at hd); (try simp only [Nat.reduceAdd] at hK hL); (have e148 := hB.out 148); (simp (decide := true) only [look, if_true, if_false, hd, cond_true, cond_false, Array.getD_eq_getD_getElem?, List.getElem?_toArray, List.getElem?_cons_succ, List.getElem?_cons_zero, Option.getD_some] at e148); (have e149 := hB.out 149); (simp (decide := true) only [look, if_true, if_false, hd, cond_true, cond_false, Array.getD_eq_getD_getElem?, List.getElem?_toArray, List.getElem?_cons_succ, List.getElem?_cons_zero, Option.getD_some] at e149); go_simp; exact hK.out (.pointer (some ⟨r1, s, none⟩)) () W (by simp (decide := true) [putO, setF, upd]) hW)
                      · (intro L x W hW hC hL hd B K hB hK; (try simp [depsB, Region.binds] at hd); (try simp only [Nat.reduceAdd] at hK hL); (have e150 := hB.out 150); (simp (decide := true) only [look, if_true, if_false, hd, cond_true, cond_false, Array.getD_eq_getD_getElem?, List.getElem?_toArray, List.getElem?_cons_succ, List.getElem?_cons_zero, Option.getD_some] at e150); (have ho := HOWN.out W (hW.has (List.mem_cons_of_mem _ HM1.out)) s hsn); (have lo := (hW.has (List.mem_cons_of_mem _ HM1.out)).lt); (rw [hzl] at ho); go_simp; exact hK.out (.int .i64 z) () W (by simp (decide := true) [putO, setF, upd]) hW)
                      · (intro L x W hW hC hL hd B K hB hK; (try simp [depsB, Region.binds] at hd); (try simp only [Nat.reduceAdd] at hK hL); (have e15 := hB.out 15); (simp (decide := true) only [look, if_true, if_false, hd, cond_true, cond_false, Array.getD_eq_getD_getElem?, List.getElem?_toArray, List.getElem?_cons_succ, List.getElem?_cons_zero, Option.getD_some] at e15); go_simp; exact hK.out (.int .i64 nw2) () W (by simp (decide := true) [putO, setF, upd]) hW)
                      · intro L x W hW hC hL hd B K hB hK; (try simp [depsB, Region.binds] at hd); (try simp only [Nat.reduceAdd] at hK hL)
                        (have e146 := hB.out 146); (simp (decide := true) only [look, if_true, if_false, hd, cond_true, cond_false, Array.getD_eq_getD_getElem?, List.getElem?_toArray, List.getElem?_cons_succ, List.getElem?_cons_zero, Option.getD_some] at e146); (have e147 := hB.out 147); (simp (decide := true) only [look, if_true, if_false, hd, cond_true, cond_false, Array.getD_eq_getD_getElem?, List.getElem?_toArray, List.getElem?_cons_succ, List.getElem?_cons_zero, Option.getD_some] at e147); (have e151 := hB.out 151); (simp (decide := true) only [look, if_true, if_false, hd, cond_true, cond_false, Array.getD_eq_getD_getElem?, List.getElem?_toArray, List.getElem?_cons_succ, List.getElem?_cons_zero, Option.getD_some] at e151); (have e152 := hB.out 152); (simp (decide := true) only [look, if_true, if_false, hd, cond_true, cond_false, Array.getD_eq_getD_getElem?, List.getElem?_toArray, List.getElem?_cons_succ, List.getElem?_cons_zero, Option.getD_some] at e152)
                        simp only [hL, cond_false] at hW
                        refine wp_call_in 11 (by rfl) (by kernel_rfl) #[ptr pf, .int .i64 s, .int .i64 z, .int .i64 nw2] (by simp [Act.eval, e146, e147, e151, e152]) ((lay_to pf s F W z nw2 (hW.has (List.mem_cons_self ..)) hF8 hsF 0 HE.out).mono ?_)
                        rintro e W4 ⟨rfl, hw4⟩
                        rw [if_pos rfl] at hw4
                        have B4 := hW.set (9 + s) (.bool true)
                        rw [fcs_lay F s (by omega) true, ← hw4] at B4
                        refine ⟨_, rfl, ?_⟩
                        exact hK.out (.int .i64 0) () W4 (by simp (decide := true) [putO, setF, upd]) (by simpa [upd] using B4)
                      · (intro L x W hW hC hL hd B K hB hK; (try simp [depsB, Region.binds] at hd); (try simp only [Nat.reduceAdd] at hK hL); (have e153 := hB.out 153); (simp (decide := true) only [look, if_true, if_false, hd, cond_true, cond_false, Array.getD_eq_getD_getElem?, List.getElem?_toArray, List.getElem?_cons_succ, List.getElem?_cons_zero, Option.getD_some] at e153); go_simp; exact hK.out (.bool true) () W (by simp (decide := true) [putO, setF, upd]) hW)
                      · (intro L x W hW hC hL hd B K hB hK; (try simp [depsB, Region.binds] at hd); (try simp only [Nat.reduceAdd] at hK hL); (have e154 := hB.out 154); (simp (decide := true) only [look, if_true, if_false, hd, cond_true, cond_false, Array.getD_eq_getD_getElem?, List.getElem?_toArray, List.getElem?_cons_succ, List.getElem?_cons_zero, Option.getD_some] at e154); go_simp; exact hK.out (.bool true) () W (by simp (decide := true) [putO, setF, upd]) hW)
                      · (intro L x W hW hC hL hd B K hB hK; (try simp [depsB, Region.binds] at hd); (try simp only [Nat.reduceAdd] at hK hL); (have e155 := hB.out 155); (simp (decide := true) only [look, if_true, if_false, hd, cond_true, cond_false] at e155); (try dsimp only); rw [if_pos (by rw [wanted_B rfl rfl e155]; rfl)]; (have e13 := hB.out 13); (simp (decide := true) only [look, if_true, if_false, hd, cond_true, cond_false, Array.getD_eq_getD_getElem?, List.getElem?_toArray, List.getElem?_cons_succ, List.getElem?_cons_zero, Option.getD_some] at e13); go_simp; exact hK.out (ptr pb) () W (by simp (decide := true) [putO, setF, upd]) hW)
                      · (intro L x W hW hC hL hd B K hB hK; (try simp [depsB, Region.binds] at hd); (try simp only [Nat.reduceAdd] at hK hL); (have e155 := hB.out 155); (simp (decide := true) only [look, if_true, if_false, hd, cond_true, cond_false] at e155); (try dsimp only); rw [if_pos (by rw [wanted_B rfl rfl e155]; rfl)]; (have e18 := hB.out 18); (simp (decide := true) only [look, if_true, if_false, hd, cond_true, cond_false, Array.getD_eq_getD_getElem?, List.getElem?_toArray, List.getElem?_cons_succ, List.getElem?_cons_zero, Option.getD_some] at e18); go_simp; exact hK.out (.int .i64 s) () W (by simp (decide := true) [putO, setF, upd]) hW)
                      · intro L x W hW hC hL hd B K hB hK; (try simp [depsB, Region.binds] at hd); (try simp only [Nat.reduceAdd] at hK hL)
                        (have e155 := hB.out 155); (simp (decide := true) only [look, if_true, if_false, hd, cond_true, cond_false] at e155); (try dsimp only); rw [if_pos (by rw [wanted_B rfl rfl e155]; rfl)]
                        (have e157 := hB.out 157); (simp (decide := true) only [look, if_true, if_false, hd, cond_true, cond_false, Array.getD_eq_getD_getElem?, List.getElem?_toArray, List.getElem?_cons_succ, List.getElem?_cons_zero, Option.getD_some] at e157)
                        refine wp_call_in 4 (by rfl) (by kernel_rfl) #[.int .i64 s] (by simp [Act.eval, e157]) ((key_to s hs8 W).mono ?_)
                        rintro e W4 ⟨rfl, hb4⟩
                        refine ⟨_, rfl, ?_⟩
                        exact hK.out (.agg #[.int .u8 (by8 (kX s) 0), .int .u8 (by8 (kX s) 1), .int .u8 (by8 (kX s) 2), .int .u8 (by8 (kX s) 3), .int .u8 (by8 (kX s) 4), .int .u8 (by8 (kX s) 5), .int .u8 (by8 (kX s) 6), .int .u8 (by8 (kX s) 7)]) () W4 (by simp (decide := true) [putO, setF, upd]) (hW.of_below hb4)
                      · (intro L x W hW hC hL hd B K hB hK; (try simp [depsB, Region.binds] at hd); (try simp only [Nat.reduceAdd] at hK hL); (have e155 := hB.out 155); (simp (decide := true) only [look, if_true, if_false, hd, cond_true, cond_false] at e155); (try dsimp only); rw [if_pos (by rw [wanted_B rfl rfl e155]; rfl)]; (have e10 := hB.out 10); (simp (decide := true) only [look, if_true, if_false, hd, cond_true, cond_false, Array.getD_eq_getD_getElem?, List.getElem?_toArray, List.getElem?_cons_succ, List.getElem?_cons_zero, Option.getD_some] at e10); (have hbg := hW.has (List.mem_cons_of_mem _ HMg.out)); (have g0 := hbg.cell 0); (have g1 := hbg.cell 1); (have g2 := hbg.cell 2); (have g3 := hbg.cell 3); (have g4 := hbg.cell 4); (have g5 := hbg.cell 5); (have g6 := hbg.cell 6); (have g7 := hbg.cell 7); (have lg := hbg.lt); (simp only [List.getElem?_toArray, List.getElem?_cons_succ, List.getElem?_cons_zero] at g0 g1 g2 g3 g4 g5 g6 g7); clear hbg; go_simp; exact hK.out (.agg #[.int .u8 (by8 goalX 0), .int .u8 (by8 goalX 1), .int .u8 (by8 goalX 2), .int .u8 (by8 goalX 3), .int .u8 (by8 goalX 4), .int .u8 (by8 goalX 5), .int .u8 (by8 goalX 6), .int .u8 (by8 goalX 7)]) () W (by simp (decide := true) [putO, setF, upd]) hW)
                      · (intro L x W hW hC hL hd B K hB hK; (try simp [depsB, Region.binds] at hd); (try simp only [Nat.reduceAdd] at hK hL); (have e155 := hB.out 155); (simp (decide := true) only [look, if_true, if_false, hd, cond_true, cond_false] at e155); (try dsimp only); rw [if_pos (by rw [wanted_B rfl rfl e155]; rfl)]; (have e7 := hB.out 7); (simp (decide := true) only [look, if_true, if_false, hd, cond_true, cond_false, Array.getD_eq_getD_getElem?, List.getElem?_toArray, List.getElem?_cons_succ, List.getElem?_cons_zero, Option.getD_some] at e7); go_simp; exact hK.out (.slice (some ⟨r1, 0, none⟩) n c7) () W (by simp (decide := true) [putO, setF, upd]) hW)
                      · (intro L x W hW hC hL hd B K hB hK; (try simp [depsB, Region.binds] at hd); (try simp only [Nat.reduceAdd] at hK hL); (have e155 := hB.out 155); (simp (decide := true) only [look, if_true, if_false, hd, cond_true, cond_false] at e155); (try dsimp only); rw [if_pos (by rw [wanted_B rfl rfl e155]; rfl)]; (have e18 := hB.out 18); (simp (decide := true) only [look, if_true, if_false, hd, cond_true, cond_false, Array.getD_eq_getD_getElem?, List.getElem?_toArray, List.getElem?_cons_succ, List.getElem?_cons_zero, Option.getD_some] at e18); go_simp; exact hK.out (.int .i64 s) () W (by simp (decide := true) [putO, setF, upd]) hW)
                      · (intro L x W hW hC hL hd B K hB hK; (try simp [depsB, Region.binds] at hd); (try simp only [Nat.reduceAdd] at hK hL); (have e155 := hB.out 155); (simp (decide := true) only [look, if_true, if_false, hd, cond_true, cond_false] at e155); (try dsimp only); rw [if_pos (by rw [wanted_B rfl rfl e155]; rfl)]; (have e160 := hB.out 160); (simp (decide := true) only [look, if_true, if_false, hd, cond_true, cond_false, Array.getD_eq_getD_getElem?, List.getElem?_toArray, List.getElem?_cons_succ, List.getElem?_cons_zero, Option.getD_some] at e160); (have e161 := hB.out 161); (simp (decide := true) only [look, if_true, if_false, hd, cond_true, cond_false, Array.getD_eq_getD_getElem?, List.getElem?_toArray, List.getElem?_cons_succ, List.getElem?_cons_zero, Option.getD_some] at e161); go_simp; exact hK.out (.pointer (some ⟨r1, s, none⟩)) () W (by simp (decide := true) [putO, setF, upd]) hW)
                      · (intro L x W hW hC hL hd B K hB hK; (try simp [depsB, Region.binds] at hd); (try simp only [Nat.reduceAdd] at hK hL); (have e155 := hB.out 155); (simp (decide := true) only [look, if_true, if_false, hd, cond_true, cond_false] at e155); (try dsimp only); rw [if_pos (by rw [wanted_B rfl rfl e155]; rfl)]; (have e162 := hB.out 162); (simp (decide := true) only [look, if_true, if_false, hd, cond_true, cond_false, Array.getD_eq_getD_getElem?, List.getElem?_toArray, List.getElem?_cons_succ, List.getElem?_cons_zero, Option.getD_some] at e162); (have ho := HOWN.out W (hW.has (List.mem_cons_of_mem _ HM1.out)) s hsn); (have lo := (hW.has (List.mem_cons_of_mem _ HM1.out)).lt); (rw [hzl] at ho); go_simp; exact hK.out (.int .i64 z) () W (by simp (decide := true) [putO, setF, upd]) hW)
                      · intro L x W hW hC hL hd B K hB hK; (try simp [depsB, Region.binds] at hd); (try simp only [Nat.reduceAdd] at hK hL)
                        (have e155 := hB.out 155); (simp (decide := true) only [look, if_true, if_false, hd, cond_true, cond_false] at e155); (try dsimp only); rw [if_pos (by rw [wanted_B rfl rfl e155]; rfl)]
                        (have e156 := hB.out 156); (simp (decide := true) only [look, if_true, if_false, hd, cond_true, cond_false, Array.getD_eq_getD_getElem?, List.getElem?_toArray, List.getElem?_cons_succ, List.getElem?_cons_zero, Option.getD_some] at e156); (have e158 := hB.out 158); (simp (decide := true) only [look, if_true, if_false, hd, cond_true, cond_false, Array.getD_eq_getD_getElem?, List.getElem?_toArray, List.getElem?_cons_succ, List.getElem?_cons_zero, Option.getD_some] at e158); (have e159 := hB.out 159); (simp (decide := true) only [look, if_true, if_false, hd, cond_true, cond_false, Array.getD_eq_getD_getElem?, List.getElem?_toArray, List.getElem?_cons_succ, List.getElem?_cons_zero, Option.getD_some] at e159); (have e163 := hB.out 163); (simp (decide := true) only [look, if_true, if_false, hd, cond_true, cond_false, Array.getD_eq_getD_getElem?, List.getElem?_toArray, List.getElem?_cons_succ, List.getElem?_cons_zero, Option.getD_some] at e163)
                        have h9 := hC 9 _ rfl (by simp only [hd])
                        simp [depsB, Region.binds] at h9
                        simp only [hL, h9, cond_false, cond_true] at hW
                        refine wp_call_in 10 (by rfl) (by kernel_rfl) #[ptr pb, .agg #[.int .u8 (by8 (kX s) 0), .int .u8 (by8 (kX s) 1), .int .u8 (by8 (kX s) 2), .int .u8 (by8 (kX s) 3), .int .u8 (by8 (kX s) 4), .int .u8 (by8 (kX s) 5), .int .u8 (by8 (kX s) 6), .int .u8 (by8 (kX s) 7)], .agg #[.int .u8 (by8 goalX 0), .int .u8 (by8 goalX 1), .int .u8 (by8 goalX 2), .int .u8 (by8 goalX 3), .int .u8 (by8 goalX 4), .int .u8 (by8 goalX 5), .int .u8 (by8 goalX 6), .int .u8 (by8 goalX 7)], .int .i64 z] (by simp [Act.eval, e156, e158, e159, e163]) ((move_ok pb (kX s) goalX z (kX_goal s hs8) W w _ [] (bookM F) hW (by omega) HMV.out.1 HMV.out.2.1 HMV.out.2.2.1 HMV.out.2.2.2.1 (bookM (F.lay s true)) HMV.out.2.2.2.2).mono ?_)
                        rintro e W4 ⟨rfl, h5⟩
                        refine ⟨_, rfl, ?_⟩
                        exact hK.out (.int .i64 0) () W4 (by simp (decide := true) [putO, setF, upd]) (by simpa [upd, h9] using h5)
                      · (intro L x W hW hC hL hd B K hB hK; (try simp [depsB, Region.binds] at hd); (try simp only [Nat.reduceAdd] at hK hL); (have e155 := hB.out 155); (simp (decide := true) only [look, if_true, if_false, hd, cond_true, cond_false] at e155); (try dsimp only); rw [if_pos (by rw [wanted_B rfl rfl e155]; rfl)]; (have e164 := hB.out 164); (simp (decide := true) only [look, if_true, if_false, hd, cond_true, cond_false, Array.getD_eq_getD_getElem?, List.getElem?_toArray, List.getElem?_cons_succ, List.getElem?_cons_zero, Option.getD_some] at e164); go_simp; exact hK.out (.bool false) () W (by simp (decide := true) [putO, setF, upd]) hW)
                      · (intro L x W hW hC hL hd B K hB hK; (try simp [depsB, Region.binds] at hd); (try simp only [Nat.reduceAdd] at hK hL); (have e155 := hB.out 155); (simp (decide := true) only [look, if_true, if_false, hd, cond_true, cond_false, Array.getD_eq_getD_getElem?, List.getElem?_toArray, List.getElem?_cons_succ, List.getElem?_cons_zero, Option.getD_some] at e155); (have e165 := hB.out 165); (simp (decide := true) only [look, if_true, if_false, hd, cond_true, cond_false, Array.getD_eq_getD_getElem?, List.getElem?_toArray, List.getElem?_cons_succ, List.getElem?_cons_zero, Option.getD_some] at e165); go_simp; exact hK.out (.bool false) () W (by simp (decide := true) [putO, setF, upd]) hW)
                      intro _ W9 hW9
                      simp only [ovl, cond_true, Array.getD_eq_getD_getElem?, List.getElem?_toArray, List.getElem?_cons_succ, List.getElem?_cons_zero, Option.getD_some, List.setIfInBounds_toArray, List.set_cons_zero, List.set_cons_succ]
                      (try simp only [cond_true] at hW9)
                      have HB9 := Lib.hid hW9
                      clear hW9 HB6
                      go_wp2_with fail
                      go_meet
                      exact ⟨F.lay s true, rfl, rfl, HF.out.lay hsF true, hFn, HFst.out, fun h => (by cases h), HB9.out⟩
                  ·
                      have hE0b : ((E : Int) == 0) = false := by rw [beq_eq_false_iff_ne]; omega
                      clear hz
                      go_wp2_with fail
                      refine wp_region_o2 [146, 147, 148, 149, 150, 151, 152, 153, 154, 155, 156, 157, 158, 159, 160, 161, 162, 163, 164, 165, 166] (fun L (_ : Unit) => [(L 0, 146, ptr pf), (L 1, 147, .int .i64 s), (L 2, 148, .slice (some ⟨r1, 0, none⟩) n c7), (L 3, 149, .int .i64 s), (L 4, 150, .pointer (some ⟨r1, s, none⟩)), (L 5, 151, .int .i64 z), (L 6, 152, .int .i64 nw2), (L 7, 153, .int .i64 E), (L 8, 154, .bool false), (L 9, 155, .bool false), (L 10, 156, undef), (L 11, 157, undef), (L 12, 158, undef), (L 13, 159, undef), (L 14, 160, undef), (L 15, 161, undef), (L 16, 162, undef), (L 17, 163, undef), (L 18, 164, undef), (L 19, 165, undef), (L 20, 166, .bool false)])
                        (fun L _ W => Bk W w (⟨pf, 57, fcs F⟩ :: BB) [] pb (bookM F)) () (by kernel_rfl) (by kernel_rfl) 248 (by rfl) (fun _ _ => rfl) (by kernel_rfl) (by kernel_rfl) (by kernel_rfl) (by rfl) HB6.out.drew ?_ ⟨?_, ?_, ?_, ?_, ?_, ?_, ?_, ?_, ?_, ?_, ?_, ?_, ?_, ?_, ?_, ?_, ?_, ?_, ?_, ?_, ?_, trivial⟩
                      rotate_left
                      · (intro L x W hW hC hL hd B K hB hK; (try simp [depsB, Region.binds] at hd); (try simp only [Nat.reduceAdd] at hK hL); (have e11 := hB.out 11); (simp (decide := true) only [look, if_true, if_false, hd, cond_true, cond_false, Array.getD_eq_getD_getElem?, List.getElem?_toArray, List.getElem?_cons_succ, List.getElem?_cons_zero, Option.getD_some] at e11); go_simp; exact hK.out (ptr pf) () W (by simp (decide := true) [putO, setF, upd]) hW)
                      · (intro L x W hW hC hL hd B K hB hK; (try simp [depsB, Region.binds] at hd); (try simp only [Nat.reduceAdd] at hK hL); (have e18 := hB.out 18); (simp (decide := true) only [look, if_true, if_false, hd, cond_true, cond_false, Array.getD_eq_getD_getElem?, List.getElem?_toArray, List.getElem?_cons_succ, List.getElem?_cons_zero, Option.getD_some] at e18); go_simp; exact hK.out (.int .i64 s) () W (by simp (decide := true) [putO, setF, upd]) hW)
                      · (intro L x W hW hC hL hd B K hB hK; (try simp [depsB, Region.binds] at hd); (try simp only [Nat.reduceAdd] at hK hL); (have e7 := hB.out 7); (simp (decide := true) only [look, if_true, if_false, hd, cond_true, cond_false, Array.getD_eq_getD_getElem?, List.getElem?_toArray, List.getElem?_cons_succ, List.getElem?_cons_zero, Option.getD_some] at e7); go_simp; exact hK.out (.slice (some ⟨r1, 0, none⟩) n c7) () W (by simp (decide := true) [putO, setF, upd]) hW)
                      · (intro L x W hW hC hL hd B K hB hK; (try simp [depsB, Region.binds] at hd); (try simp only [Nat.reduceAdd] at hK hL); (have e18 := hB.out 18); (simp (decide := true) only [look, if_true, if_false, hd, cond_true, cond_false, Array.getD_eq_getD_getElem?, List.getElem?_toArray, List.getElem?_cons_succ, List.getElem?_cons_zero, Option.getD_some] at e18); go_simp; exact hK.out (.int .i64 s) () W (by simp (decide := true) [putO, setF, upd]) hW)
                      · (intro L x W hW hC hL hd B K hB hK; (try simp [depsB, Region.binds] at hd); (try simp only [Nat.reduceAdd] at hK hL); (have e148 := hB.out 148); (simp (decide := true) only [look, if_true, if_false, hd, cond_true, cond_false, Array.getD_eq_getD_getElem?, List.getElem?_toArray, List.getElem?_cons_succ, List.getElem?_cons_zero, Option.getD_some] at e148); (have e149 := hB.out 149); (simp (decide := true) only [look, if_true, if_false, hd, cond_true, cond_false, Array.getD_eq_getD_getElem?, List.getElem?_toArray, List.getElem?_cons_succ, List.getElem?_cons_zero, Option.getD_some] at e149); go_simp; exact hK.out (.pointer (some ⟨r1, s, none⟩)) () W (by simp (decide := true) [putO, setF, upd]) hW)
                      · (intro L x W hW hC hL hd B K hB hK; (try simp [depsB, Region.binds] at hd); (try simp only [Nat.reduceAdd] at hK hL); (have e150 := hB.out 150); (simp (decide := true) only [look, if_true, if_false, hd, cond_true, cond_false, Array.getD_eq_getD_getElem?, List.getElem?_toArray, List.getElem?_cons_succ, List.getElem?_cons_zero, Option.getD_some] at e150); (have ho := HOWN.out W (hW.has (List.mem_cons_of_mem _ HM1.out)) s hsn); (have lo := (hW.has (List.mem_cons_of_mem _ HM1.out)).lt); (rw [hzl] at ho); go_simp; exact hK.out (.int .i64 z) () W (by simp (decide := true) [putO, setF, upd]) hW)
                      · (intro L x W hW hC hL hd B K hB hK; (try simp [depsB, Region.binds] at hd); (try simp only [Nat.reduceAdd] at hK hL); (have e15 := hB.out 15); (simp (decide := true) only [look, if_true, if_false, hd, cond_true, cond_false, Array.getD_eq_getD_getElem?, List.getElem?_toArray, List.getElem?_cons_succ, List.getElem?_cons_zero, Option.getD_some] at e15); go_simp; exact hK.out (.int .i64 nw2) () W (by simp (decide := true) [putO, setF, upd]) hW)
                      · intro L x W hW hC hL hd B K hB hK; (try simp [depsB, Region.binds] at hd); (try simp only [Nat.reduceAdd] at hK hL)
                        (have e146 := hB.out 146); (simp (decide := true) only [look, if_true, if_false, hd, cond_true, cond_false, Array.getD_eq_getD_getElem?, List.getElem?_toArray, List.getElem?_cons_succ, List.getElem?_cons_zero, Option.getD_some] at e146); (have e147 := hB.out 147); (simp (decide := true) only [look, if_true, if_false, hd, cond_true, cond_false, Array.getD_eq_getD_getElem?, List.getElem?_toArray, List.getElem?_cons_succ, List.getElem?_cons_zero, Option.getD_some] at e147); (have e151 := hB.out 151); (simp (decide := true) only [look, if_true, if_false, hd, cond_true, cond_false, Array.getD_eq_getD_getElem?, List.getElem?_toArray, List.getElem?_cons_succ, List.getElem?_cons_zero, Option.getD_some] at e151); (have e152 := hB.out 152); (simp (decide := true) only [look, if_true, if_false, hd, cond_true, cond_false, Array.getD_eq_getD_getElem?, List.getElem?_toArray, List.getElem?_cons_succ, List.getElem?_cons_zero, Option.getD_some] at e152)
                        refine wp_call_in 11 (by rfl) (by kernel_rfl) #[ptr pf, .int .i64 s, .int .i64 z, .int .i64 nw2] (by simp [Act.eval, e146, e147, e151, e152]) ((lay_to pf s F W z nw2 (hW.has (List.mem_cons_self ..)) hF8 hsF E HE.out).mono ?_)
                        rintro e W4 ⟨rfl, hw4⟩
                        rw [if_neg hE0] at hw4
                        subst hw4
                        refine ⟨_, rfl, ?_⟩
                        exact hK.out (.int .i64 E) () W4 (by simp (decide := true) [putO, setF, upd]) hW
                      · (intro L x W hW hC hL hd B K hB hK; (try simp [depsB, Region.binds] at hd); (try simp only [Nat.reduceAdd] at hK hL); (have e153 := hB.out 153); (simp (decide := true) only [look, if_true, if_false, hd, cond_true, cond_false, Array.getD_eq_getD_getElem?, List.getElem?_toArray, List.getElem?_cons_succ, List.getElem?_cons_zero, Option.getD_some] at e153); go_simp; exact hK.out (.bool false) () W (by simp (decide := true) [putO, setF, upd]) hW)
                      · (intro L x W hW hC hL hd B K hB hK; (try simp [depsB, Region.binds] at hd); (try simp only [Nat.reduceAdd] at hK hL); (have e154 := hB.out 154); (simp (decide := true) only [look, if_true, if_false, hd, cond_true, cond_false, Array.getD_eq_getD_getElem?, List.getElem?_toArray, List.getElem?_cons_succ, List.getElem?_cons_zero, Option.getD_some] at e154); go_simp; exact hK.out (.bool false) () W (by simp (decide := true) [putO, setF, upd]) hW)
                      · (intro L x W hW hC hL hd B K hB hK; (try simp [depsB, Region.binds] at hd); (try simp only [Nat.reduceAdd] at hK hL); (have e155 := hB.out 155); (simp (decide := true) only [look, if_true, if_false, hd, cond_true, cond_false] at e155); (try dsimp only); rw [if_neg (by rw [wanted_B rfl rfl e155]; decide)]; exact hK.out (undef) () W (by simp (decide := true) [putO, setF, upd]) hW)
                      · (intro L x W hW hC hL hd B K hB hK; (try simp [depsB, Region.binds] at hd); (try simp only [Nat.reduceAdd] at hK hL); (have e155 := hB.out 155); (simp (decide := true) only [look, if_true, if_false, hd, cond_true, cond_false] at e155); (try dsimp only); rw [if_neg (by rw [wanted_B rfl rfl e155]; decide)]; exact hK.out (undef) () W (by simp (decide := true) [putO, setF, upd]) hW)
                      · (intro L x W hW hC hL hd B K hB hK; (try simp [depsB, Region.binds] at hd); (try simp only [Nat.reduceAdd] at hK hL); (have e155 := hB.out 155); (simp (decide := true) only [look, if_true, if_false, hd, cond_true, cond_false] at e155); (try dsimp only); rw [if_neg (by rw [wanted_B rfl rfl e155]; decide)]; exact hK.out (undef) () W (by simp (decide := true) [putO, setF, upd]) hW)
                      · (intro L x W hW hC hL hd B K hB hK; (try simp [depsB, Region.binds] at hd); (try simp only [Nat.reduceAdd] at hK hL); (have e155 := hB.out 155); (simp (decide := true) only [look, if_true, if_false, hd, cond_true, cond_false] at e155); (try dsimp only); rw [if_neg (by rw [wanted_B rfl rfl e155]; decide)]; exact hK.out (undef) () W (by simp (decide := true) [putO, setF, upd]) hW)
                      · (intro L x W hW hC hL hd B K hB hK; (try simp [depsB, Region.binds] at hd); (try simp only [Nat.reduceAdd] at hK hL); (have e155 := hB.out 155); (simp (decide := true) only [look, if_true, if_false, hd, cond_true, cond_false] at e155); (try dsimp only); rw [if_neg (by rw [wanted_B rfl rfl e155]; decide)]; exact hK.out (undef) () W (by simp (decide := true) [putO, setF, upd]) hW)
                      · (intro L x W hW hC hL hd B K hB hK; (try simp [depsB, Region.binds] at hd); (try simp only [Nat.reduceAdd] at hK hL); (have e155 := hB.out 155); (simp (decide := true) only [look, if_true, if_false, hd, cond_true, cond_false] at e155); (try dsimp only); rw [if_neg (by rw [wanted_B rfl rfl e155]; decide)]; exact hK.out (undef) () W (by simp (decide := true) [putO, setF, upd]) hW)
                      · (intro L x W hW hC hL hd B K hB hK; (try simp [depsB, Region.binds] at hd); (try simp only [Nat.reduceAdd] at hK hL); (have e155 := hB.out 155); (simp (decide := true) only [look, if_true, if_false, hd, cond_true, cond_false] at e155); (try dsimp only); rw [if_neg (by rw [wanted_B rfl rfl e155]; decide)]; exact hK.out (undef) () W (by simp (decide := true) [putO, setF, upd]) hW)
                      · (intro L x W hW hC hL hd B K hB hK; (try simp [depsB, Region.binds] at hd); (try simp only [Nat.reduceAdd] at hK hL); (have e155 := hB.out 155); (simp (decide := true) only [look, if_true, if_false, hd, cond_true, cond_false] at e155); (try dsimp only); rw [if_neg (by rw [wanted_B rfl rfl e155]; decide)]; exact hK.out (undef) () W (by simp (decide := true) [putO, setF, upd]) hW)
                      · (intro L x W hW hC hL hd B K hB hK; (try simp [depsB, Region.binds] at hd); (try simp only [Nat.reduceAdd] at hK hL); (have e155 := hB.out 155); (simp (decide := true) only [look, if_true, if_false, hd, cond_true, cond_false] at e155); (try dsimp only); rw [if_neg (by rw [wanted_B rfl rfl e155]; decide)]; exact hK.out (undef) () W (by simp (decide := true) [putO, setF, upd]) hW)
                      · (intro L x W hW hC hL hd B K hB hK; (try simp [depsB, Region.binds] at hd); (try simp only [Nat.reduceAdd] at hK hL); (have e155 := hB.out 155); (simp (decide := true) only [look, if_true, if_false, hd, cond_true, cond_false] at e155); (try dsimp only); rw [if_neg (by rw [wanted_B rfl rfl e155]; decide)]; exact hK.out (undef) () W (by simp (decide := true) [putO, setF, upd]) hW)
                      · (intro L x W hW hC hL hd B K hB hK; (try simp [depsB, Region.binds] at hd); (try simp only [Nat.reduceAdd] at hK hL); (have e155 := hB.out 155); (simp (decide := true) only [look, if_true, if_false, hd, cond_true, cond_false, Array.getD_eq_getD_getElem?, List.getElem?_toArray, List.getElem?_cons_succ, List.getElem?_cons_zero, Option.getD_some] at e155); (have e165 := hB.out 165); (simp (decide := true) only [look, if_true, if_false, hd, cond_true, cond_false, Array.getD_eq_getD_getElem?, List.getElem?_toArray, List.getElem?_cons_succ, List.getElem?_cons_zero, Option.getD_some] at e165); go_simp; exact hK.out (.bool false) () W (by simp (decide := true) [putO, setF, upd]) hW)
                      intro _ W9 hW9
                      simp only [ovl, cond_true, Array.getD_eq_getD_getElem?, List.getElem?_toArray, List.getElem?_cons_succ, List.getElem?_cons_zero, Option.getD_some, List.setIfInBounds_toArray, List.set_cons_zero, List.set_cons_succ]
                      (try simp only [cond_true] at hW9)
                      have HB9 := Lib.hid hW9
                      clear hW9 HB6
                      go_wp2_with fail
                      go_meet
                      exact ⟨F, rfl, rfl, HF.out, hFn, HFst.out, fun h => by rw [← h]; exact HFB.out, HB9.out⟩
            case rest =>
              have hfe := field_ent
              obtain ⟨F', rfl, rfl, hF', hFn', hFst', hfu, B10⟩ := hcut
              clear HB6 HF HFst hsE hnE
              have hF8' : F'.n ≤ 8 := by omega
              have HF' := Lib.hid hF'
              have HFst' := Lib.hid hFst'
              have HFU := Lib.hid hfu
              have HB10 := Lib.hid B10
              have hW10 := worth_book hF'
              rw [hFn'] at hW10
              have hgo10 : bookM F' goalX = heldS F' F'.n := bookM_goal hF8'
              clear B10 hF' hFst' hfu
              go_wp2_with fail
              refine (total_to pb _ w _ [] (bookM F') HB10.out _ hW10 (by omega)).mono ?_
              rintro e w11 ⟨rfl, B11⟩
              have hbg := B11.has (List.mem_cons_of_mem _ HMg.out)
              (have g0 := hbg.cell 0); (have g1 := hbg.cell 1); (have g2 := hbg.cell 2); (have g3 := hbg.cell 3); (have g4 := hbg.cell 4); (have g5 := hbg.cell 5); (have g6 := hbg.cell 6); (have g7 := hbg.cell 7); (simp only [List.getElem?_toArray, List.getElem?_cons_succ, List.getElem?_cons_zero] at g0 g1 g2 g3 g4 g5 g6 g7)
              have lg := hbg.lt
              have HB11 := Lib.hid B11
              clear hbg B11 HB10 hW10
              go_wp2_with fail
              refine (of_to pb goalX _ w _ [] (bookM F') HB11.out _ hgo10).mono ?_
              rintro e w12 ⟨rfl, B12⟩
              have HB12 := Lib.hid B12
              have T12 := held_to pf F' w12 (B12.has (List.mem_cons_self ..)) hF8' (fun q hq => by have := HF'.out.giv q hq; omega)
              clear B12 HB11 g0 g1 g2 g3 g4 g5 g6 g7 lg hgo10
              go_wp2_with fail
              refine T12.mono ?_
              rintro e w13 ⟨rfl, rfl⟩
              clear T12
              have hcase : (fb = true ∧ fullB F' = true) ∨ (fb = false ∧ fullB F' = true) ∨ (fb = false ∧ fullB F' = false) := by
                cases hb1 : fb with
                | true => exact .inl ⟨rfl, HFU.out hb1⟩
                | false => cases hb2 : fullB F' with
                  | true => exact .inr (.inl ⟨rfl, rfl⟩)
                  | false => exact .inr (.inr ⟨rfl, rfl⟩)
              rcases hcase with ⟨rfl, hf2⟩ | ⟨rfl, hf2⟩ | ⟨rfl, hf2⟩
              · as_aux_lemma =>
                  have T13 := phase_to pf F' w13 nw2 (HB12.out.has (List.mem_cons_self ..)) hF8' 1 (by unfold phaseE; rw [if_pos hf2])
                  go_wp2_with fail
                  refine T13.mono ?_
                  rintro e w14 ⟨rfl, hb14⟩
                  have HB14 := Lib.hid (HB12.out.of_below hb14)
                  clear hb14 HB12 T13
                  go_wp2_with fail
                  refine (phase_to pf F' _ nw2 (HB14.out.has (List.mem_cons_self ..)) hF8' 1 (by unfold phaseE; rw [if_pos hf2])).mono ?_
                  rintro e w15 ⟨rfl, hb15⟩
                  have HB15 := Lib.hid (HB14.out.of_below hb15)
                  clear hb15 HB14
                  obtain ⟨m1, es1, ck1, O15, D15⟩ := HB15.out
                  go_wp2_with fail
                  refine (fclone_to pf F' _ w _ _ O15 (by simp)).mono ?_
                  rintro e w16 ⟨qf, rfl, O16⟩
                  have B16 : Bk w16 w (⟨qf, 57, fcs F'⟩ :: (⟨pf, 57, fcs F'⟩ :: BB)) [] pb (bookM F') := ⟨m1, es1, ck1, O16.perm (perm_cnt fun x => by simp only [cnt_append, cnt_cons, cnt_nil] <;> omega), D15⟩
                  have HBc := Lib.hid B16
                  clear B16 O16 O15 D15 HB15
                  go_wp2_with fail
                  refine (bclone_to pb _ w _ [] _ HBc.out).mono ?_
                  rintro e w17 ⟨qb, m, es, ck, rfl, hD15, B17⟩
                  have HD15 := Lib.hid hD15
                  have HB16 := Lib.hid (B17.perm (C' := ⟨qf, 57, fcs F'⟩ :: (⟨pb, 60, #[.map (some m)]⟩ :: (⟨pf, 57, fcs F'⟩ :: BB))) (perm_cnt fun x => by simp only [cnt_append, cnt_cons, cnt_nil] <;> omega))
                  clear B17 hD15 HBc
                  go_wp2_with fail
                  go_loopw [23] (fun v wr => v = .int .i64 0 ∧ Bk wr w (⟨qf, 57, fcs F'⟩ :: (⟨pb, 60, #[.map (some m)]⟩ :: (⟨pf, 57, fcs F'⟩ :: BB))) [(m, .map es ck)] qb (bookM F')) (fun _ _ => 0)
                  case atStart => exact ⟨rfl, HB16.out⟩
                  case round =>
                    obtain ⟨rfl, B18⟩ := hrel
                    have HB18 := Lib.hid B18
                    clear B18
                    have hn0 : 0 < n := by omega
                    go_wp2_with fail
                    go_loopw [26] (fun v wr => v = .int .i64 0 ∧ Bk wr w (⟨qf, 57, fcs F'⟩ :: (⟨pb, 60, #[.map (some m)]⟩ :: (⟨pf, 57, fcs F'⟩ :: BB))) [(m, .map es ck)] qb (bookM F')) (fun _ _ => 0)
                    case atStart => exact ⟨rfl, HB18.out⟩
                    case round =>
                      obtain ⟨rfl, B19⟩ := hrel
                      have HB19 := Lib.hid B19
                      clear B19
                      go_wp2
                      refine ⟨⟨k + 1, nw2, F', by simp, by omega, by omega, rfl, hnw2, by rw [hf2], HF'.out, hFn', HFst'.out, ?_⟩, by simp [intOf]; omega⟩
                      exact Bk.dropC (B := [⟨qf, 57, fcs F'⟩]) (Bk.back (HB19.out.perm (C' := ⟨pb, 60, #[.map (some m)]⟩ :: (⟨qf, 57, fcs F'⟩ :: (⟨pf, 57, fcs F'⟩ :: BB))) (perm_cnt fun x => by simp only [cnt_append, cnt_cons, cnt_nil] <;> omega)) HD15.out)
              · as_aux_lemma =>
                  have HB14 := HB12
                  clear HB12
                  go_wp2_with fail
                  refine (phase_to pf F' _ nw2 (HB14.out.has (List.mem_cons_self ..)) hF8' 1 (by unfold phaseE; rw [if_pos hf2])).mono ?_
                  rintro e w15 ⟨rfl, hb15⟩
                  have HB15 := Lib.hid (HB14.out.of_below hb15)
                  clear hb15 HB14
                  obtain ⟨m1, es1, ck1, O15, D15⟩ := HB15.out
                  go_wp2_with fail
                  refine (fclone_to pf F' _ w _ _ O15 (by simp)).mono ?_
                  rintro e w16 ⟨qf, rfl, O16⟩
                  have B16 : Bk w16 w (⟨qf, 57, fcs F'⟩ :: (⟨pf, 57, fcs F'⟩ :: BB)) [] pb (bookM F') := ⟨m1, es1, ck1, O16.perm (perm_cnt fun x => by simp only [cnt_append, cnt_cons, cnt_nil] <;> omega), D15⟩
                  have HBc := Lib.hid B16
                  clear B16 O16 O15 D15 HB15
                  go_wp2_with fail
                  refine (bclone_to pb _ w _ [] _ HBc.out).mono ?_
                  rintro e w17 ⟨qb, m, es, ck, rfl, hD15, B17⟩
                  have HD15 := Lib.hid hD15
                  have HB16 := Lib.hid (B17.perm (C' := ⟨qf, 57, fcs F'⟩ :: (⟨pb, 60, #[.map (some m)]⟩ :: (⟨pf, 57, fcs F'⟩ :: BB))) (perm_cnt fun x => by simp only [cnt_append, cnt_cons, cnt_nil] <;> omega))
                  clear B17 hD15 HBc
                  go_wp2_with fail
                  go_loopw [23] (fun v wr => v = .int .i64 0 ∧ Bk wr w (⟨qf, 57, fcs F'⟩ :: (⟨pb, 60, #[.map (some m)]⟩ :: (⟨pf, 57, fcs F'⟩ :: BB))) [(m, .map es ck)] qb (bookM F')) (fun _ _ => 0)
                  case atStart => exact ⟨rfl, HB16.out⟩
                  case round =>
                    obtain ⟨rfl, B18⟩ := hrel
                    have HB18 := Lib.hid B18
                    clear B18
                    have hn0 : 0 < n := by omega
                    go_wp2_with fail
                    go_loopw [26] (fun v wr => v = .int .i64 0 ∧ Bk wr w (⟨qf, 57, fcs F'⟩ :: (⟨pb, 60, #[.map (some m)]⟩ :: (⟨pf, 57, fcs F'⟩ :: BB))) [(m, .map es ck)] qb (bookM F')) (fun _ _ => 0)
                    case atStart => exact ⟨rfl, HB18.out⟩
                    case round =>
                      obtain ⟨rfl, B19⟩ := hrel
                      have HB19 := Lib.hid B19
                      clear B19
                      go_wp2
                      refine ⟨⟨k + 1, nw2, F', by simp, by omega, by omega, rfl, hnw2, by rw [hf2], HF'.out, hFn', HFst'.out, ?_⟩, by simp [intOf]; omega⟩
                      exact Bk.dropC (B := [⟨qf, 57, fcs F'⟩]) (Bk.back (HB19.out.perm (C' := ⟨pb, 60, #[.map (some m)]⟩ :: (⟨qf, 57, fcs F'⟩ :: (⟨pf, 57, fcs F'⟩ :: BB))) (perm_cnt fun x => by simp only [cnt_append, cnt_cons, cnt_nil] <;> omega)) HD15.out)
              · as_aux_lemma =>
                  have HB14 := HB12
                  clear HB12
                  have hph : ((phaseE F' nw2 : Nat) : Int) = 2 ∨ ((phaseE F' nw2 : Nat) : Int) = 0 := by
                    unfold phaseE
                    rw [if_neg (by rw [hf2]; simp)]
                    split <;> simp
                  go_wp2_with fail
                  refine (phase_to pf F' _ nw2 (HB14.out.has (List.mem_cons_self ..)) hF8' _ rfl).mono ?_
                  rintro e w15 ⟨rfl, hb15⟩
                  have HB15 := Lib.hid (HB14.out.of_below hb15)
                  clear hb15 HB14
                  have hne1 : (((phaseE F' nw2 : Nat) : Int) == 1) = false := by rw [beq_eq_false_iff_ne]; omega
                  obtain ⟨m1, es1, ck1, O15, D15⟩ := HB15.out
                  clear hph
                  go_wp2_with fail
                  refine (fclone_to pf F' _ w _ _ O15 (by simp)).mono ?_
                  rintro e w16 ⟨qf, rfl, O16⟩
                  have B16 : Bk w16 w (⟨qf, 57, fcs F'⟩ :: (⟨pf, 57, fcs F'⟩ :: BB)) [] pb (bookM F') := ⟨m1, es1, ck1, O16.perm (perm_cnt fun x => by simp only [cnt_append, cnt_cons, cnt_nil] <;> omega), D15⟩
                  have HBc := Lib.hid B16
                  clear B16 O16 O15 D15 HB15
                  go_wp2_with fail
                  refine (bclone_to pb _ w _ [] _ HBc.out).mono ?_
                  rintro e w17 ⟨qb, m, es, ck, rfl, hD15, B17⟩
                  have HD15 := Lib.hid hD15
                  have HB16 := Lib.hid (B17.perm (C' := ⟨qf, 57, fcs F'⟩ :: (⟨pb, 60, #[.map (some m)]⟩ :: (⟨pf, 57, fcs F'⟩ :: BB))) (perm_cnt fun x => by simp only [cnt_append, cnt_cons, cnt_nil] <;> omega))
                  clear B17 hD15 HBc
                  go_wp2_with fail
                  go_loopw [23] (fun v wr => ∃ j : Nat, v = .int .i64 j ∧ j ≤ n ∧ Bk wr w (⟨qf, 57, fcs (clearF F' j)⟩ :: (⟨pb, 60, #[.map (some m)]⟩ :: (⟨pf, 57, fcs F'⟩ :: BB))) [(m, .map es ck)] qb (bookM (clearF F' j))) (fun v _ => n - (intOf v).toNat)
                  case atStart => exact ⟨0, rfl, by omega, by rw [clearF_zero]; exact HB16.out⟩
                  case round =>
                    obtain ⟨j, rfl, hj, B16⟩ := hrel
                    have HB16' := Lib.hid B16
                    clear B16
                    by_cases hltj : j < n
                    · have hj8 : j ≤ 8 := by omega
                      have hjF : j < F'.n := by omega
                      cases hlj : F'.ld j with
                      | false =>
                        have T := given_to pf j F' wr (HB16'.out.has (b := pf) (t := 57) (cs := fcs F') (by simp)) hF8' hjF 0 (by unfold givE; rw [if_neg (by rw [hlj]; simp)])
                        go_wp2_with fail
                        refine T.mono ?_
                        rintro e w17 ⟨rfl, rfl⟩
                        clear T
                        go_wp2
                        exact ⟨⟨j + 1, by simp, by omega, by rw [← clearF_skip F' j hlj]; exact HB16'.out⟩, by simp [intOf]; omega⟩
                      | true =>
                        obtain ⟨F2, hF2⟩ : ∃ F2, F2 = clearF F' j := ⟨_, rfl⟩
                        have hF2n : F2.n = F'.n := by rw [hF2]; rfl
                        obtain ⟨z, hz⟩ : ∃ z : Nat, F'.st j = (z : Int) := ⟨(F'.st j).toNat, by have := HF'.out.st j hjF; omega⟩
                        have hzb : 1 ≤ z ∧ z ≤ 256 := by have := HF'.out.st j hjF; omega
                        have hF2st : F2.st j = (z : Int) := by rw [hF2]; exact hz
                        have hF2ld : F2.ld j = true := by rw [hF2]; show (if j < j then false else F'.ld j) = true; rw [if_neg (by omega), hlj]
                        have hF2f : fullB F2 = false := by rw [hF2]; exact clearF_full HF'.out hf2 j
                        have hF2ok : FOk F2 := by rw [hF2]; exact clearF_ok HF'.out j
                        have hF2s : F2.lay j false = clearF F' (j + 1) := by rw [hF2]; exact clearF_succ F' j
                        rw [← hF2] at HB16'
                        clear hF2
                        have HMV : Hid ((z : Int) ≤ bookM F2 goalX ∧ bookM F2 goalX ≤ 1000000 ∧ 0 ≤ bookM F2 (kX j) ∧ bookM F2 (kX j) ≤ 1000000 ∧ updM (updM (bookM F2) goalX (bookM F2 goalX - z)) (kX j) (bookM F2 (kX j) + z) = bookM (F2.lay j false)) := by
                          have h1 := move_back F2 (by omega) j (by omega) hF2ld
                          rw [hF2st] at h1
                          have h2 := held_bd hF2ok F2.n (Nat.le_refl _)
                          have h4 : givE F2 j = z := by unfold givE; rw [if_pos hF2ld, hF2st]
                          have h5 := held_ge hF2ok j (by omega)
                          rw [bookM_goal (F := F2) (by omega), bookM_key (F := F2) (by omega) j (by omega)] at *
                          exact ⟨by omega, by omega, by omega, by omega, h1⟩
                        have T := given_to pf j F' wr (HB16'.out.has (b := pf) (t := 57) (cs := fcs F') (by simp)) hF8' hjF z (by unfold givE; rw [if_pos hlj, hz])
                        have T2 := back_to qf j F2 wr nw2 (HB16'.out.has (List.mem_cons_self ..)) (by omega) (by omega) z 0 (by unfold backE; rw [if_neg (by rw [hF2ld]; simp), if_neg (by rw [hF2f]; simp), hF2st])
                        have hz0 : ((z : Int) == 0) = false := by rw [beq_eq_false_iff_ne]; omega
                        clear hz hF2st
                        go_wp2_with fail
                        refine T.mono ?_
                        rintro e w17 ⟨rfl, rfl⟩
                        clear T
                        go_wp2_with fail
                        refine T2.mono ?_
                        rintro e w18 ⟨rfl, w18', hb18, hw18⟩
                        simp only [if_true] at hw18
                        have B17 := (HB16'.out.of_below hb18).set (9 + j) (.bool false)
                        rw [fcs_lay F2 j (by omega) false, ← hw18] at B17
                        have HB17 := Lib.hid B17
                        clear hb18 hw18 B17 HB16' T2
                        go_wp2_with fail
                        refine wp_region_o2 [220, 221, 222, 223, 224, 225, 226, 227, 228, 229, 230] (fun L (_ : Unit) => [(L 0, 220, .int .i64 0), (L 1, 221, .bool false), (L 2, 222, .bool false), (L 3, 223, ptr qb), (L 4, 224, .agg #[.int .u8 (by8 goalX 0), .int .u8 (by8 goalX 1), .int .u8 (by8 goalX 2), .int .u8 (by8 goalX 3), .int .u8 (by8 goalX 4), .int .u8 (by8 goalX 5), .int .u8 (by8 goalX 6), .int .u8 (by8 goalX 7)]), (L 5, 225, .int .i64 j), (L 6, 226, .agg #[.int .u8 (by8 (kX j) 0), .int .u8 (by8 (kX j) 1), .int .u8 (by8 (kX j) 2), .int .u8 (by8 (kX j) 3), .int .u8 (by8 (kX j) 4), .int .u8 (by8 (kX j) 5), .int .u8 (by8 (kX j) 6), .int .u8 (by8 (kX j) 7)]), (L 7, 227, .int .i64 z), (L 8, 228, .int .i64 0), (L 9, 229, .bool false), (L 10, 230, .bool false)])
                          (fun L _ W => Bk W w (⟨qf, 57, fcs (F2.lay j false)⟩ :: (⟨pb, 60, #[.map (some m)]⟩ :: (⟨pf, 57, fcs F'⟩ :: BB))) [(m, .map es ck)] qb (bif L 8 then bookM (F2.lay j false) else bookM F2)) () (by kernel_rfl) (by kernel_rfl) 248 (by rfl) (fun _ _ => rfl) (by kernel_rfl) (by kernel_rfl) (by kernel_rfl) (by rfl) HB17.out.drew ?_ ⟨?_, ?_, ?_, ?_, ?_, ?_, ?_, ?_, ?_, ?_, ?_, trivial⟩
                        rotate_left
                        · (intro L x W hW hC hL hd B K hB hK; (try simp [depsB, Region.binds] at hd); (try simp only [Nat.reduceAdd] at hK hL); (have e25 := hB.out 25); (simp (decide := true) only [look, if_true, if_false, hd, cond_true, cond_false, Array.getD_eq_getD_getElem?, List.getElem?_toArray, List.getElem?_cons_succ, List.getElem?_cons_zero, Option.getD_some] at e25); go_simp; exact hK.out (.int .i64 0) () W (by simp (decide := true) [putO, setF, upd]) hW)
                        · (intro L x W hW hC hL hd B K hB hK; (try simp [depsB, Region.binds] at hd); (try simp only [Nat.reduceAdd] at hK hL); (have e220 := hB.out 220); (simp (decide := true) only [look, if_true, if_false, hd, cond_true, cond_false, Array.getD_eq_getD_getElem?, List.getElem?_toArray, List.getElem?_cons_succ, List.getElem?_cons_zero, Option.getD_some] at e220); go_simp; exact hK.out (.bool false) () W (by simp (decide := true) [putO, setF, upd]) hW)
                        · (intro L x W hW hC hL hd B K hB hK; (try simp [depsB, Region.binds] at hd); (try simp only [Nat.reduceAdd] at hK hL); (have e221 := hB.out 221); (simp (decide := true) only [look, if_true, if_false, hd, cond_true, cond_false, Array.getD_eq_getD_getElem?, List.getElem?_toArray, List.getElem?_cons_succ, List.getElem?_cons_zero, Option.getD_some] at e221); go_simp; exact hK.out (.bool false) () W (by simp (decide := true) [putO, setF, upd]) hW)
                        · (intro L x W hW hC hL hd B K hB hK; (try simp [depsB, Region.binds] at hd); (try simp only [Nat.reduceAdd] at hK hL); (have e222 := hB.out 222); (simp (decide := true) only [look, if_true, if_false, hd, cond_true, cond_false] at e222); (try dsimp only); rw [if_pos (by rw [wanted_B rfl rfl e222]; rfl)]; (have e22 := hB.out 22); (simp (decide := true) only [look, if_true, if_false, hd, cond_true, cond_false, Array.getD_eq_getD_getElem?, List.getElem?_toArray, List.getElem?_cons_succ, List.getElem?_cons_zero, Option.getD_some] at e22); go_simp; exact hK.out (ptr qb) () W (by simp (decide := true) [putO, setF, upd]) hW)
                        · (intro L x W hW hC hL hd B K hB hK; (try simp [depsB, Region.binds] at hd); (try simp only [Nat.reduceAdd] at hK hL); (have e222 := hB.out 222); (simp (decide := true) only [look, if_true, if_false, hd, cond_true, cond_false] at e222); (try dsimp only); rw [if_pos (by rw [wanted_B rfl rfl e222]; rfl)]; (have e10 := hB.out 10); (simp (decide := true) only [look, if_true, if_false, hd, cond_true, cond_false, Array.getD_eq_getD_getElem?, List.getElem?_toArray, List.getElem?_cons_succ, List.getElem?_cons_zero, Option.getD_some] at e10); (have hbg := hW.has (List.mem_cons_of_mem _ (List.mem_cons_of_mem _ (List.mem_cons_of_mem _ HMg.out)))); (have g0 := hbg.cell 0); (have g1 := hbg.cell 1); (have g2 := hbg.cell 2); (have g3 := hbg.cell 3); (have g4 := hbg.cell 4); (have g5 := hbg.cell 5); (have g6 := hbg.cell 6); (have g7 := hbg.cell 7); (simp only [List.getElem?_toArray, List.getElem?_cons_succ, List.getElem?_cons_zero] at g0 g1 g2 g3 g4 g5 g6 g7); (have lg := hbg.lt); clear hbg; go_simp; exact hK.out (.agg #[.int .u8 (by8 goalX 0), .int .u8 (by8 goalX 1), .int .u8 (by8 goalX 2), .int .u8 (by8 goalX 3), .int .u8 (by8 goalX 4), .int .u8 (by8 goalX 5), .int .u8 (by8 goalX 6), .int .u8 (by8 goalX 7)]) () W (by simp (decide := true) [putO, setF, upd]) hW)
                        · (intro L x W hW hC hL hd B K hB hK; (try simp [depsB, Region.binds] at hd); (try simp only [Nat.reduceAdd] at hK hL); (have e222 := hB.out 222); (simp (decide := true) only [look, if_true, if_false, hd, cond_true, cond_false] at e222); (try dsimp only); rw [if_pos (by rw [wanted_B rfl rfl e222]; rfl)]; (have e23 := hB.out 23); (simp (decide := true) only [look, if_true, if_false, hd, cond_true, cond_false, Array.getD_eq_getD_getElem?, List.getElem?_toArray, List.getElem?_cons_succ, List.getElem?_cons_zero, Option.getD_some] at e23); go_simp; exact hK.out (.int .i64 j) () W (by simp (decide := true) [putO, setF, upd]) hW)
                        · intro L x W hW hC hL hd B K hB hK; (try simp [depsB, Region.binds] at hd); (try simp only [Nat.reduceAdd] at hK hL)
                          (have e222 := hB.out 222); (simp (decide := true) only [look, if_true, if_false, hd, cond_true, cond_false] at e222); (try dsimp only); rw [if_pos (by rw [wanted_B rfl rfl e222]; rfl)]
                          (have e225 := hB.out 225); (simp (decide := true) only [look, if_true, if_false, hd, cond_true, cond_false, Array.getD_eq_getD_getElem?, List.getElem?_toArray, List.getElem?_cons_succ, List.getElem?_cons_zero, Option.getD_some] at e225)
                          refine wp_call_in 4 (by rfl) (by kernel_rfl) #[.int .i64 j] (by simp [Act.eval, e225]) ((key_to j hj8 W).mono ?_)
                          rintro e W4 ⟨rfl, hb4⟩
                          refine ⟨_, rfl, ?_⟩
                          exact hK.out (.agg #[.int .u8 (by8 (kX j) 0), .int .u8 (by8 (kX j) 1), .int .u8 (by8 (kX j) 2), .int .u8 (by8 (kX j) 3), .int .u8 (by8 (kX j) 4), .int .u8 (by8 (kX j) 5), .int .u8 (by8 (kX j) 6), .int .u8 (by8 (kX j) 7)]) () W4 (by simp (decide := true) [putO, setF, upd]) (hW.of_below hb4)
                        · (intro L x W hW hC hL hd B K hB hK; (try simp [depsB, Region.binds] at hd); (try simp only [Nat.reduceAdd] at hK hL); (have e222 := hB.out 222); (simp (decide := true) only [look, if_true, if_false, hd, cond_true, cond_false] at e222); (try dsimp only); rw [if_pos (by rw [wanted_B rfl rfl e222]; rfl)]; (have e24 := hB.out 24); (simp (decide := true) only [look, if_true, if_false, hd, cond_true, cond_false, Array.getD_eq_getD_getElem?, List.getElem?_toArray, List.getElem?_cons_succ, List.getElem?_cons_zero, Option.getD_some] at e24); go_simp; exact hK.out (.int .i64 z) () W (by simp (decide := true) [putO, setF, upd]) hW)
                        · intro L x W hW hC hL hd B K hB hK; (try simp [depsB, Region.binds] at hd); (try simp only [Nat.reduceAdd] at hK hL)
                          (have e222 := hB.out 222); (simp (decide := true) only [look, if_true, if_false, hd, cond_true, cond_false] at e222); (try dsimp only); rw [if_pos (by rw [wanted_B rfl rfl e222]; rfl)]
                          (have e223 := hB.out 223); (simp (decide := true) only [look, if_true, if_false, hd, cond_true, cond_false, Array.getD_eq_getD_getElem?, List.getElem?_toArray, List.getElem?_cons_succ, List.getElem?_cons_zero, Option.getD_some] at e223); (have e224 := hB.out 224); (simp (decide := true) only [look, if_true, if_false, hd, cond_true, cond_false, Array.getD_eq_getD_getElem?, List.getElem?_toArray, List.getElem?_cons_succ, List.getElem?_cons_zero, Option.getD_some] at e224); (have e226 := hB.out 226); (simp (decide := true) only [look, if_true, if_false, hd, cond_true, cond_false, Array.getD_eq_getD_getElem?, List.getElem?_toArray, List.getElem?_cons_succ, List.getElem?_cons_zero, Option.getD_some] at e226); (have e227 := hB.out 227); (simp (decide := true) only [look, if_true, if_false, hd, cond_true, cond_false, Array.getD_eq_getD_getElem?, List.getElem?_toArray, List.getElem?_cons_succ, List.getElem?_cons_zero, Option.getD_some] at e227)
                          simp only [hL, cond_false] at hW
                          refine wp_call_in 10 (by rfl) (by kernel_rfl) #[ptr qb, .agg #[.int .u8 (by8 goalX 0), .int .u8 (by8 goalX 1), .int .u8 (by8 goalX 2), .int .u8 (by8 goalX 3), .int .u8 (by8 goalX 4), .int .u8 (by8 goalX 5), .int .u8 (by8 goalX 6), .int .u8 (by8 goalX 7)], .agg #[.int .u8 (by8 (kX j) 0), .int .u8 (by8 (kX j) 1), .int .u8 (by8 (kX j) 2), .int .u8 (by8 (kX j) 3), .int .u8 (by8 (kX j) 4), .int .u8 (by8 (kX j) 5), .int .u8 (by8 (kX j) 6), .int .u8 (by8 (kX j) 7)], .int .i64 z] (by simp [Act.eval, e223, e224, e226, e227]) ((move_ok qb goalX (kX j) z (fun h => kX_goal j hj8 h.symm) W w _ _ (bookM F2) hW (by omega) HMV.out.1 HMV.out.2.1 HMV.out.2.2.1 HMV.out.2.2.2.1 (bookM (F2.lay j false)) HMV.out.2.2.2.2).mono ?_)
                          rintro e W4 ⟨rfl, h5⟩
                          refine ⟨_, rfl, ?_⟩
                          exact hK.out (.int .i64 0) () W4 (by simp (decide := true) [putO, setF, upd]) (by simpa [upd] using h5)
                        · (intro L x W hW hC hL hd B K hB hK; (try simp [depsB, Region.binds] at hd); (try simp only [Nat.reduceAdd] at hK hL); (have e222 := hB.out 222); (simp (decide := true) only [look, if_true, if_false, hd, cond_true, cond_false] at e222); (try dsimp only); rw [if_pos (by rw [wanted_B rfl rfl e222]; rfl)]; (have e228 := hB.out 228); (simp (decide := true) only [look, if_true, if_false, hd, cond_true, cond_false, Array.getD_eq_getD_getElem?, List.getElem?_toArray, List.getElem?_cons_succ, List.getElem?_cons_zero, Option.getD_some] at e228); go_simp; exact hK.out (.bool false) () W (by simp (decide := true) [putO, setF, upd]) hW)
                        · (intro L x W hW hC hL hd B K hB hK; (try simp [depsB, Region.binds] at hd); (try simp only [Nat.reduceAdd] at hK hL); (have e222 := hB.out 222); (simp (decide := true) only [look, if_true, if_false, hd, cond_true, cond_false, Array.getD_eq_getD_getElem?, List.getElem?_toArray, List.getElem?_cons_succ, List.getElem?_cons_zero, Option.getD_some] at e222); (have e229 := hB.out 229); (simp (decide := true) only [look, if_true, if_false, hd, cond_true, cond_false, Array.getD_eq_getD_getElem?, List.getElem?_toArray, List.getElem?_cons_succ, List.getElem?_cons_zero, Option.getD_some] at e229); go_simp; exact hK.out (.bool false) () W (by simp (decide := true) [putO, setF, upd]) hW)
                        intro _ W9 hW9
                        simp only [ovl, cond_true, Array.getD_eq_getD_getElem?, List.getElem?_toArray, List.getElem?_cons_succ, List.getElem?_cons_zero, Option.getD_some, List.setIfInBounds_toArray, List.set_cons_zero, List.set_cons_succ]
                        (try simp only [cond_true] at hW9)
                        have HB18 := Lib.hid hW9
                        clear hW9 HB17
                        go_wp2
                        exact ⟨⟨j + 1, by simp, by omega, by rw [← hF2s]; exact HB18.out⟩, by simp [intOf]; omega⟩
                    · obtain rfl : j = n := by omega
                      go_wp2_with fail
                      go_loopw [26] (fun v wr => ∃ q : Nat, v = .int .i64 q ∧ q ≤ j ∧ Bk wr w (⟨qf, 57, fcs (clearF F' j)⟩ :: (⟨pb, 60, #[.map (some m)]⟩ :: (⟨pf, 57, fcs F'⟩ :: BB))) [(m, .map es ck)] qb (bookM (clearF F' j))) (fun v _ => j - (intOf v).toNat)
                      case atStart => exact ⟨0, rfl, by omega, HB16'.out⟩
                      case round =>
                        obtain ⟨q, rfl, hq, B17⟩ := hrel
                        have HB17 := Lib.hid B17
                        clear B17
                        by_cases hltq : q < j
                        · have hall : bookM (clearF F' j) (kX q) = 500 := by
                            have h := clearF_all (F := F') hF8' q (by omega)
                            rw [hFn'] at h
                            exact h
                          go_wp2_with fail
                          refine (key_to q (by omega) _).mono ?_
                          rintro e w18 ⟨rfl, hb18⟩
                          have HB18 := Lib.hid (HB17.out.of_below hb18)
                          clear hb18 HB17
                          go_wp2_with fail
                          refine (of_to qb (kX q) _ w _ _ _ HB18.out 500 hall).mono ?_
                          rintro e w19 ⟨rfl, B19⟩
                          have HB19 := Lib.hid B19
                          clear B19 HB18
                          go_wp2
                          exact ⟨⟨q + 1, by simp, by omega, HB19.out⟩, by simp [intOf]; omega⟩
                        · obtain rfl : q = j := by omega
                          go_wp2
                          refine ⟨⟨k + 1, nw2, F', by simp, by omega, by omega, rfl, hnw2, by rw [hf2], HF'.out, hFn', HFst'.out, ?_⟩, by simp [intOf]; omega⟩
                          exact Bk.dropC (B := [⟨qf, 57, fcs (clearF F' q)⟩]) (Bk.back (HB17.out.perm (C' := ⟨pb, 60, #[.map (some m)]⟩ :: (⟨qf, 57, fcs (clearF F' q)⟩ :: (⟨pf, 57, fcs F'⟩ :: BB))) (perm_cnt fun x => by simp only [cnt_append, cnt_cons, cnt_nil] <;> omega)) HD15.out)

          · have hgoe2 : ¬ k < n3 ∨ (k < n3 ∧ ¬ k < 30) := by omega
            rcases hgoe2 with he1 | ⟨he1, he2⟩
            · go_wp2_with fail
              refine (awake_to _).mono ?_
              rintro e w7 ⟨rfl, hb7⟩
              have HB := Lib.hid (HB6.out.of_below hb7).below
              clear hb7 HB6
              go_wp2
              go_ret
              exact ⟨rfl, HB.out⟩
            · go_wp2_with fail
              refine (awake_to _).mono ?_
              rintro e w7 ⟨rfl, hb7⟩
              have HB := Lib.hid (HB6.out.of_below hb7).below
              clear hb7 HB6
              go_wp2
              go_ret
              exact ⟨rfl, HB.out⟩

end Go.Proofs.Yteopbfehfipcmaa
