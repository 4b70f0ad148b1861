/- guard: contracts of Safe, Check, Sleep. -/
import Derived.Test.YtghaiplhakeahaaGe
import Derived.Test.YtghaiplhakeahaaOwa
import Derived.Test.YtghaiplhakeahaaGk
namespace Go.Proofs.Ytghaiplhakeahaa
set_option linter.unusedSimpArgs false
set_option linter.unusedVariables false
open Go.RowKit

def safeB (G : GS) : Bool := !G.noted || decide ((G.need : Int) ≤ (G.towers : Int) - ((dueL G).length : Int))
set_option maxRecDepth 100000 in
set_option maxHeartbeats 2000000 in
theorem safe_to (p : Nat) (G : GS) (w w0 : World) (C X : List Blk) (h : Gu w w0 C X p G) (ht : G.towers ≤ 16) (b : Bool) (hb : safeB G = b) :
    Calls Try.prog 33 #[ptr p] w fun e w' => e = .returned (.bool b) ∧ Below w.heap.size w w' := by
  have HG := Lib.hid h
  obtain ⟨bv, O, m⟩ := h
  have HB := O.has (List.mem_cons_self ..)
  have lt := HB.lt
  have c8 : w.cell? ⟨p, 8, none⟩ = some (.int .i64 G.towers) := HB.cell 8
  have c9 : w.cell? ⟨p, 9, none⟩ = some (.int .i64 G.need) := HB.cell 9
  have c10 : w.cell? ⟨p, 10, none⟩ = some (.bool G.noted) := HB.cell 10
  clear O m HB
  unfold safeB at hb
  cases hn : G.noted with
  | false =>
    rw [hn] at c10 hb
    simp only [Bool.not_false, Bool.true_or] at hb
    subst hb
    go_enter Try.func33, Try.ntmps33
    go_wp2_with fail
    refine wp_region_rq (by kernel_rfl) (by kernel_rfl) (by kernel_rfl) ?_
    repeat (first
      | (refine B_skip ?_ ?_; (· rfl); (try simp only [Act.put, List.setIfInBounds_toArray, List.set_cons_zero, List.set_cons_succ]))
      | (refine B_move rfl ?_ ?_; (· rfl); (try simp only [Act.eval, Act.put, Array.getD_eq_getD_getElem?, List.getElem?_toArray, List.getElem?_cons_succ, List.getElem?_cons_zero, Option.getD_some, List.setIfInBounds_toArray, List.set_cons_zero, List.set_cons_succ]))
      | (refine B_plain ?_ ?_; (· rfl); intro K hK; go_big_quiet_op; with_reducible refine hK _ ?_; clear hK K)
      | (refine B_nilck rfl rfl ?_ ?_; (· rfl); (try simp only [Act.put, List.setIfInBounds_toArray, List.set_cons_zero, List.set_cons_succ])))
    refine B_nil ?_ rfl ?_ ?_
    · kernel_rfl
    · rfl
    rintro _ ⟨⟨g3, d3⟩, rfl⟩
    simp only [fin, Act.put, List.setIfInBounds_toArray, List.set_cons_zero, List.set_cons_succ]
    go_wp2
    go_ret
    exact ⟨rfl, by (repeat' (first | (with_reducible exact Below.refl _ _) | (with_reducible refine bplus ?_ _ _) | (with_reducible refine balloc ?_ _) | (with_reducible refine Below.drew ?_) | (with_reducible refine bdrewN ?_ _) | (with_reducible refine Below.setCell ?_ (by go_size) _)))⟩
  | true =>
    rw [hn] at c10 hb
    simp only [Bool.not_true, Bool.false_or] at hb
    obtain ⟨n, hN⟩ : ∃ n, (dueL G).length = n := ⟨_, rfl⟩
    have hlen := dueL_len G
    rw [hN] at hb hlen
    have T : Hid (∀ g d, Calls Try.prog 32 #[ptr p] (plus w g d) fun e w' => ∃ u, e = .returned u ∧ Below (plus w g d).heap.size (plus w g d) w' ∧ Own 3 1 w.heap.size n (ics (dueL G)) u w') := fun g d => by
      refine (due_to p G _ w0 C X (HG.out.plus g d) ht (dueL G) rfl).mono ?_
      rintro e w' ⟨u, h1, h2, h3⟩
      rw [hN] at h3
      exact ⟨u, h1, h2, h3.base (by simp)⟩
    have hsub : (G.towers : Int) - (n : Int) = ((G.towers - n : Nat) : Int) := by omega
    have hb' : decide (G.need ≤ G.towers - n) = b := by rw [← hb, hsub, decide_eq_decide]; omega
    subst hb'
    clear hb hN
    go_enter Try.func33, Try.ntmps33
    go_wp2_with fail
    refine wp_region_rq (by kernel_rfl) (by kernel_rfl) (by kernel_rfl) ?_
    repeat (first
      | (refine B_skip ?_ ?_; (· rfl); (try simp only [Act.put, List.setIfInBounds_toArray, List.set_cons_zero, List.set_cons_succ]))
      | (refine B_move rfl ?_ ?_; (· rfl); (try simp only [Act.eval, Act.put, Array.getD_eq_getD_getElem?, List.getElem?_toArray, List.getElem?_cons_succ, List.getElem?_cons_zero, Option.getD_some, List.setIfInBounds_toArray, List.set_cons_zero, List.set_cons_succ]))
      | (refine B_plain ?_ ?_; (· rfl); intro K hK; go_big_quiet_op; with_reducible refine hK _ ?_; clear hK K)
      | (refine B_callR (Own 3 1 w.heap.size n (ics (dueL G))) (stays_own _ _ _ _ _) (f := 32) rfl rfl (by kernel_rfl) ?_ (fun xq => ?_) ?_; (· rfl); (· ((simp only [List.map_toArray, List.map_cons, List.map_nil, Act.eval, Array.getD_eq_getD_getElem?, List.getElem?_toArray, List.getElem?_cons_succ, List.getElem?_cons_zero, Option.getD_some]); (with_reducible apply retR); with_reducible exact T.out _ _)))
      | (refine B_nilck rfl rfl ?_ ?_; (· rfl); (try simp only [Act.put, List.setIfInBounds_toArray, List.set_cons_zero, List.set_cons_succ]))
      | (refine B_lenR n (s := 16) (ty := 0) rfl Try.underlying47 rfl rfl (fun u W hu => hu.slice) ?_ ?_ ?_; (· rfl); (· rfl); (try simp only [Act.put, List.setIfInBounds_toArray, List.set_cons_zero, List.set_cons_succ])))
    refine B_nil ?_ rfl ?_ ?_
    · kernel_rfl
    · rfl
    rintro _ ⟨⟨g3, d3⟩, rfl⟩
    simp only [fin, Act.put, List.setIfInBounds_toArray, List.set_cons_zero, List.set_cons_succ]
    intros
    go_wp2
    go_ret
    exact ⟨rfl, by (repeat' (first | (with_reducible exact Below.refl _ _) | (with_reducible refine bplus ?_ _ _) | (with_reducible refine balloc ?_ _) | (with_reducible refine Below.drew ?_) | (with_reducible refine bdrewN ?_ _) | (with_reducible refine Below.setCell ?_ (by go_size) _)))⟩
theorem safe_nil (w : World) : Calls Try.prog 33 #[.pointer none] w fun e w' => e = .returned (.bool false) ∧ w' = w := by
  go_enter Try.func33, Try.ntmps33
  go_wp2
  go_ret
  exact ⟨rfl, rfl⟩

def checkE (s : Int) : Nat := if s < 0 ∨ 1024 < s then 2 else 0
set_option maxRecDepth 100000 in
set_option maxHeartbeats 2000000 in
theorem check_bounds (s : Int) (E : Nat) (hE : checkE s = E) (w : World) :
    Calls Try.prog 71 #[.agg #[.int .i64 0, .int .i64 0, .int .i64 s]] w fun e w' => e = .returned (.int .i64 E) ∧ Below w.heap.size w w' := by
  have HB := Lib.hid (show Below w.heap.size w (w.alloc (.cells #[.int .i64 0, .int .i64 0, .int .i64 s] 90)) from by (repeat' (first | (with_reducible exact Below.refl _ _) | (with_reducible refine bplus ?_ _ _) | (with_reducible refine balloc ?_ _) | (with_reducible refine Below.drew ?_) | (with_reducible refine bdrewN ?_ _) | (with_reducible refine Below.setCell ?_ (by go_size) _))))
  go_enter Try.func71, Try.ntmps71
  go_wp2_with fail
  go_loopw [12] (fun i wr => ∃ k : Nat, i = .int .i64 k ∧ k ≤ 3 ∧ (k = 3 → E = 0) ∧ Below w.heap.size w wr) (fun i _ => 3 - (intOf i).toNat)
  case atStart => exact ⟨0, rfl, by omega, by omega, HB.out⟩
  case round =>
    obtain ⟨k, rfl, hk, hE3, hB⟩ := hrel
    rcases (by omega : k = 0 ∨ k = 1 ∨ k = 2 ∨ k = 3) with rfl | rfl | rfl | rfl
    · go_wp2
      exact ⟨⟨1, by simp, by omega, by omega, hB⟩, by simp [intOf]⟩
    · go_wp2
      exact ⟨⟨2, by simp, by omega, by omega, hB⟩, by simp [intOf]⟩
    · unfold checkE at hE
      by_cases h1 : s < 0
      · have hd : decide (s < 0) = true := decide_eq_true h1
        rw [if_pos (.inl h1)] at hE
        subst hE
        go_wp2
        go_ret
        exact ⟨rfl, hB⟩
      · have hd : decide (s < 0) = false := decide_eq_false h1
        by_cases h2 : 1024 < s
        · have hd2 : decide (1024 < s) = true := decide_eq_true h2
          rw [if_pos (.inr h2)] at hE
          subst hE
          go_wp2
          go_ret
          exact ⟨rfl, hB⟩
        · have hd2 : decide (1024 < s) = false := decide_eq_false h2
          rw [if_neg (by omega)] at hE
          subst hE
          go_wp2
          exact ⟨⟨3, by simp, by omega, by simp, hB⟩, by simp [intOf]⟩
    · obtain rfl := hE3 rfl
      go_wp2
      go_ret
      exact ⟨rfl, hB⟩
set_option maxRecDepth 100000 in
theorem isNumber_to (n : Int) (b : Bool) (hb : isNum n = b) (w : World) : Calls Try.prog 66 #[.int .i64 n] w fun e w' => e = .returned (.bool b) ∧ w' = w := by
  unfold isNum at hb
  cases h1 : decide (0 ≤ n) with
  | false =>
    rw [h1, Bool.false_and] at hb
    subst hb
    go_enter Try.func66, Try.ntmps66
    go_wp2
    go_ret
    exact ⟨rfl, rfl⟩
  | true =>
    rw [h1, Bool.true_and] at hb
    go_enter Try.func66, Try.ntmps66
    go_wp2
    go_ret
    exact ⟨rfl, rfl⟩

def sleepE (G : GS) (b f t : Int) : Nat := if checkE b ≠ 0 then checkE b else if isNum f = false ∨ isNum t = false ∨ t < f then 2 else if f < G.slt then 7 else if safeB G = false then 10 else if b < t - f then 5 else 0
def sleepG (G : GS) (b f t : Int) : GS := if sleepE G b f t = 0 then (if f = t then wakeG G else { G with slf := f, slt := t }) else G
set_option maxRecDepth 100000 in
set_option maxHeartbeats 4000000 in
theorem sleep_to (p : Nat) (G : GS) (b f t : Int) (w w0 : World) (C X : List Blk) (h : Gu w w0 C X p G) (ht : G.towers ≤ 16) (E : Nat) (hE : sleepE G b f t = E) (G' : GS) (hG : sleepG G b f t = G') :
    Calls Try.prog 43 #[ptr p, .agg #[.int .i64 0, .int .i64 0, .int .i64 b], .int .i64 f, .int .i64 t] w fun e w' => e = .returned (.int .i64 E) ∧ Gu w' w0 C X p G' := by
  unfold sleepG at hG
  rw [hE] at hG
  have h1 := h.alloc (.cells #[.int .i64 0, .int .i64 0, .int .i64 b] 90)
  have H1 := Lib.hid h1
  obtain ⟨Y, OY, -, -⟩ := h.ow
  have hlt : w.heap.size < (w.alloc (.cells #[.int .i64 0, .int .i64 0, .int .i64 b] 90)).heap.size := by simp
  have KB := Lib.hid (OY.key #[.int .i64 0, .int .i64 0, .int .i64 b] 90 w.heap.size rfl)
  clear OY h h1
  unfold sleepE at hE
  obtain ⟨c, hc⟩ : ∃ c, checkE b = c := ⟨_, rfl⟩
  rw [hc] at hE
  have HC := Lib.hid hc
  by_cases hc0 : c = 0
  · subst hc0
    have hcb : 0 ≤ b ∧ b ≤ 1024 := by unfold checkE at hc; split at hc <;> omega
    rw [if_neg (by simp)] at hE
    obtain ⟨nf, hnf⟩ : ∃ x, isNum f = x := ⟨_, rfl⟩
    obtain ⟨nt, hnt⟩ : ∃ x, isNum t = x := ⟨_, rfl⟩
    rw [hnf, hnt] at hE
    have HNf := Lib.hid hnf
    have HNt := Lib.hid hnt
    clear hc
    go_enter Try.func43, Try.ntmps43
    go_wp2_with fail
    refine (check_bounds b 0 HC.out _).mono ?_
    rintro e w1 ⟨rfl, hb1⟩
    have KB1 := KB.out.of_below hb1
    have hk2 := (KB1.has (List.mem_cons_self ..)).cell 2
    have hkl := (KB1.has (List.mem_cons_self ..)).lt
    simp only [List.getElem?_toArray, List.getElem?_cons_succ, List.getElem?_cons_zero] at hk2
    have H2 := Lib.hid (H1.out.of_below hb1)
    clear H1 KB KB1 hb1 hlt
    go_wp2_with fail
    refine (isNumber_to f nf HNf.out _).mono ?_
    rintro e w2 ⟨rfl, rfl⟩
    cases nf with
    | false =>
      rw [if_pos (.inl rfl)] at hE
      subst hE
      rw [if_neg (by omega)] at hG
      subst hG
      go_wp2
      go_ret
      exact ⟨rfl, H2.out⟩
    | true =>
      go_wp2_with fail
      refine (isNumber_to t nt HNt.out _).mono ?_
      rintro e w2 ⟨rfl, rfl⟩
      cases nt with
      | false =>
        rw [if_pos (.inr (.inl rfl))] at hE
        subst hE
        rw [if_neg (by omega)] at hG
        subst hG
        go_wp2
        go_ret
        exact ⟨rfl, H2.out⟩
      | true =>
        have bf := isNum_bd HNf.out
        have bt := isNum_bd HNt.out
        by_cases htf : t < f
        · rw [if_pos (.inr (.inr htf))] at hE
          subst hE
          rw [if_neg (by omega)] at hG
          subst hG
          have hd : decide (t < f) = true := decide_eq_true htf
          go_wp2
          go_ret
          exact ⟨rfl, H2.out⟩
        have hd0 : decide (t < f) = false := decide_eq_false htf
        rw [if_neg (by simp [htf])] at hE
        obtain ⟨bv, O, m⟩ := H2.out
        have HB := O.has (List.mem_cons_self ..)
        have lt := HB.lt
        have c37 : w2.cell? ⟨p, 37, none⟩ = some (.int .i64 G.slf) := HB.cell 37
        have c38 : w2.cell? ⟨p, 38, none⟩ = some (.int .i64 G.slt) := HB.cell 38
        clear HB
        by_cases hs : f < G.slt
        · rw [if_pos hs] at hE
          subst hE
          rw [if_neg (by omega)] at hG
          subst hG
          have hd : decide (f < G.slt) = true := decide_eq_true hs
          clear O m
          go_wp2
          go_ret
          exact ⟨rfl, H2.out⟩
        have hd1 : decide (f < G.slt) = false := decide_eq_false hs
        rw [if_neg hs] at hE
        obtain ⟨sb, hsb⟩ : ∃ x, safeB G = x := ⟨_, rfl⟩
        rw [hsb] at hE
        have HSB := Lib.hid hsb
        clear O m hsb
        go_wp2_with fail
        refine (safe_to p G _ w0 C X H2.out ht sb HSB.out).mono ?_
        rintro e w3 ⟨rfl, hb3⟩
        have H3 := Lib.hid (H2.out.of_below hb3)
        have k2 : w3.cell? ⟨w.heap.size, 2, none⟩ = some (.int .i64 b) := by
          rw [← hk2]; exact World.cell?_of_block (a := ⟨w.heap.size, 2, none⟩) (hb3.block _ hkl)
        have kl : w.heap.size < w3.heap.size := Nat.lt_of_lt_of_le hkl hb3.size
        clear hb3 H2 c37 c38 lt hk2 hkl
        cases sb with
        | false =>
          rw [if_pos rfl] at hE
          subst hE
          rw [if_neg (by omega)] at hG
          subst hG
          go_wp2
          go_ret
          exact ⟨rfl, H3.out⟩
        | true =>
          rw [if_neg (by simp)] at hE
          by_cases hl : b < t - f
          · rw [if_pos hl] at hE
            subst hE
            rw [if_neg (by omega)] at hG
            subst hG
            have hd : decide (b < t - f) = true := decide_eq_true hl
            go_wp2
            go_ret
            exact ⟨rfl, H3.out⟩
          have hd2 : decide (b < t - f) = false := decide_eq_false hl
          rw [if_neg hl] at hE
          subst hE
          rw [if_pos rfl] at hG
          by_cases hft : f = t
          · subst hft
            rw [if_pos rfl] at hG
            subst hG
            go_wp2_with fail
            refine (wake_to p G _ w0 C X H3.out).mono ?_
            rintro e w4 ⟨rfl, h4⟩
            go_wp2
            go_ret
            exact ⟨rfl, h4⟩
          · rw [if_neg hft] at hG
            subst hG
            have hd3 : (f == t) = false := by rw [beq_eq_false_iff_ne]; exact hft
            obtain ⟨bv, O, m⟩ := H3.out
            have HB := O.has (List.mem_cons_self ..)
            have lt := HB.lt
            have c37 : w3.cell? ⟨p, 37, none⟩ = some (.int .i64 G.slf) := HB.cell 37
            have c38 : w3.cell? ⟨p, 38, none⟩ = some (.int .i64 G.slt) := HB.cell 38
            have f37 := HB.frozen 37
            have f38 := HB.frozen 38
            have HO := Lib.hid O
            have Hm := Lib.hid m
            clear HB O m
            go_wp2
            go_ret
            exact ⟨rfl, bv, ((HO.out.set 37 (.int .i64 f)).set 38 (.int .i64 t)).as (by rw [gcs_sleep]), Hm.out⟩
  · rw [if_pos hc0] at hE
    subst hE
    rw [if_neg hc0] at hG
    subst hG
    have hd : ((c : Int) == 0) = false := by rw [beq_eq_false_iff_ne]; omega
    clear hc
    go_enter Try.func43, Try.ntmps43
    go_wp2_with fail
    refine (check_bounds b c HC.out _).mono ?_
    rintro e w1 ⟨rfl, hb1⟩
    have H2 := Lib.hid (H1.out.of_below hb1)
    clear H1 KB hb1 hlt
    go_wp2
    go_ret
    exact ⟨rfl, H2.out⟩
theorem sleep_nil (b f t : Int) (w : World) : Calls Try.prog 43 #[.pointer none, .agg #[.int .i64 0, .int .i64 0, .int .i64 b], .int .i64 f, .int .i64 t] w fun e w' => e = .returned (.int .i64 1) ∧ Below w.heap.size w w' := by
  go_enter Try.func43, Try.ntmps43
  go_wp2
  go_ret
  exact ⟨rfl, by (repeat' (first | (with_reducible exact Below.refl _ _) | (with_reducible refine bplus ?_ _ _) | (with_reducible refine balloc ?_ _) | (with_reducible refine Below.drew ?_) | (with_reducible refine bdrewN ?_ _) | (with_reducible refine Below.setCell ?_ (by go_size) _)))⟩

set_option maxRecDepth 100000 in
set_option maxHeartbeats 4000000 in
theorem copied_to (h : BitVec 64) (n : Int) (v : Value) (l : List UInt8) (hl : l.length ≤ 1000000) (w : World) (hv : BSl w v l) :
    Calls Try.prog 70 #[.agg #[.int .u8 (by8 h 0), .int .u8 (by8 h 1), .int .u8 (by8 h 2), .int .u8 (by8 h 3), .int .u8 (by8 h 4), .int .u8 (by8 h 5), .int .u8 (by8 h 6), .int .u8 (by8 h 7), .int .i64 n, v]] w fun e w' => ∃ u, e = .returned (.agg #[.int .u8 (by8 h 0), .int .u8 (by8 h 1), .int .u8 (by8 h 2), .int .u8 (by8 h 3), .int .u8 (by8 h 4), .int .u8 (by8 h 5), .int .u8 (by8 h 6), .int .u8 (by8 h 7), .int .i64 n, u]) ∧ Below w.heap.size w w' ∧ Clo 5 w.heap.size l u w' := by
  obtain ⟨ao, cap, rfl, -⟩ := hv.open_
  have HV := Lib.hid hv
  have HO := Lib.hid (((Ow.start w).key #[.int .u8 (by8 h 0), .int .u8 (by8 h 1), .int .u8 (by8 h 2), .int .u8 (by8 h 3), .int .u8 (by8 h 4), .int .u8 (by8 h 5), .int .u8 (by8 h 6), .int .u8 (by8 h 7), .int .i64 n, .slice ao l.length cap] 29 w.heap.size rfl).key #[.int .u8 0, .int .u8 0, .int .u8 0, .int .u8 0, .int .u8 0, .int .u8 0, .int .u8 0, .int .u8 0, .int .i64 0, .slice none 0 0] 29 (w.heap.size + 1) (by simp))
  clear hv
  go_enter Try.func70, Try.ntmps70
  go_wp2_with fail
  refine (sclone_any _ l hl _ ((HV.out.alloc _).alloc _)).mono ?_
  rintro e w1 ⟨u, rfl, hb1, au, cu, NB, rfl, R, hNB⟩
  have O1 := (HO.out.found (Ext.of_below hb1) R.apart hNB).perm (L' := ⟨w.heap.size, 29, #[.int .u8 (by8 h 0), .int .u8 (by8 h 1), .int .u8 (by8 h 2), .int .u8 (by8 h 3), .int .u8 (by8 h 4), .int .u8 (by8 h 5), .int .u8 (by8 h 6), .int .u8 (by8 h 7), .int .i64 n, .slice ao l.length cap]⟩ :: (⟨w.heap.size + 1, 29, #[.int .u8 0, .int .u8 0, .int .u8 0, .int .u8 0, .int .u8 0, .int .u8 0, .int .u8 0, .int .u8 0, .int .i64 0, .slice none 0 0]⟩ :: NB)) (perm_cnt fun x => by simp only [cnt_append, cnt_cons, cnt_nil] <;> omega)
  have HB := O1.has (List.mem_cons_self ..)
  have hc := HB.cell
  have hf := HB.frozen 9
  have lt := HB.lt
  have O2 : Ow (w1.setCell ⟨w.heap.size, 9, none⟩ (.slice au l.length cu)) w (⟨w.heap.size + 1, 29, #[.int .u8 0, .int .u8 0, .int .u8 0, .int .u8 0, .int .u8 0, .int .u8 0, .int .u8 0, .int .u8 0, .int .i64 0, .slice none 0 0]⟩ :: (⟨w.heap.size, 29, #[.int .u8 (by8 h 0), .int .u8 (by8 h 1), .int .u8 (by8 h 2), .int .u8 (by8 h 3), .int .u8 (by8 h 4), .int .u8 (by8 h 5), .int .u8 (by8 h 6), .int .u8 (by8 h 7), .int .i64 n, .slice au l.length cu]⟩ :: NB)) := by
    have := O1.set 9 (.slice au l.length cu)
    refine (this.as ?_).perm (L := ⟨w.heap.size, 29, #[.int .u8 (by8 h 0), .int .u8 (by8 h 1), .int .u8 (by8 h 2), .int .u8 (by8 h 3), .int .u8 (by8 h 4), .int .u8 (by8 h 5), .int .u8 (by8 h 6), .int .u8 (by8 h 7), .int .i64 n, .slice au l.length cu]⟩ :: (⟨w.heap.size + 1, 29, #[.int .u8 0, .int .u8 0, .int .u8 0, .int .u8 0, .int .u8 0, .int .u8 0, .int .u8 0, .int .u8 0, .int .i64 0, .slice none 0 0]⟩ :: NB)) (perm_cnt fun x => by simp only [cnt_append, cnt_cons, cnt_nil] <;> omega)
    simp
  have HO2 := Lib.hid O2
  have HR := Lib.hid R
  have hc0 := hc 0; have hc1 := hc 1; have hc2 := hc 2; have hc3 := hc 3; have hc4 := hc 4; have hc5 := hc 5; have hc6 := hc 6; have hc7 := hc 7; have hc8 := hc 8; have hc9 := hc 9
  clear hb1 O1 O2 HB hc R hNB HO
  go_wp2_with (refine HO2.out.storeL rfl 29 (.tmp 2) (.tmp 7) rfl (by rfl) #[.int .u8 (by8 h 0), .int .u8 (by8 h 1), .int .u8 (by8 h 2), .int .u8 (by8 h 3), .int .u8 (by8 h 4), .int .u8 (by8 h 5), .int .u8 (by8 h 6), .int .u8 (by8 h 7), .int .i64 n, .slice au l.length cu] (by rfl) (by kernel_rfl) (by rfl) (by simp [Value.oneCell']) ?_; intro w3 O3)
  have HB3 := O3.has (List.mem_cons_self ..)
  have hd := HB3.cell
  refine bodyPost_ret (v := .agg #[.int .u8 (by8 h 0), .int .u8 (by8 h 1), .int .u8 (by8 h 2), .int .u8 (by8 h 3), .int .u8 (by8 h 4), .int .u8 (by8 h 5), .int .u8 (by8 h 6), .int .u8 (by8 h 7), .int .i64 n, .slice au l.length cu]) (by simp [results, Try.results70, go_sem, hd]) rfl ?_
  exact ⟨_, rfl, O3.below, au, cu, NB, rfl, HR.out, fun z hz => ⟨O3.new z (by simp [hz]), O3.mem.has z (by simp [hz])⟩⟩

/-- What a walk reads of a guard's newest appointment. -/
theorem Gu.newest {w w0 : World} {C X : List Blk} {p : Nat} {G : GS} {bv : Value} (O : Ow w w0 (⟨p, 132, gcs G bv⟩ :: (C ++ X))) : ∀ k, k < 10 → w.cell? ⟨p, 11 + k, none⟩ = (#[.int .u8 (by8 G.hint 0), .int .u8 (by8 G.hint 1), .int .u8 (by8 G.hint 2), .int .u8 (by8 G.hint 3), .int .u8 (by8 G.hint 4), .int .u8 (by8 G.hint 5), .int .u8 (by8 G.hint 6), .int .u8 (by8 G.hint 7), .int .i64 G.num, bv] : Array Value)[k]? := fun k hk => by
  rw [(O.has (List.mem_cons_self ..)).cell, gcs_open _ _ _ hk]
  rfl

set_option maxRecDepth 100000 in
set_option maxHeartbeats 4000000 in
theorem newest_no (p : Nat) (G : GS) (w w0 : World) (C X : List Blk) (h : Gu w w0 C X p G) (hn : G.noted = false) :
    Calls Try.prog 42 #[ptr p] w fun e w' => e = .returned (.tuple #[.agg #[.int .u8 0, .int .u8 0, .int .u8 0, .int .u8 0, .int .u8 0, .int .u8 0, .int .u8 0, .int .u8 0, .int .i64 0, .slice none 0 0], .bool false]) ∧ Below w.heap.size w w' := by
  obtain ⟨bv, O, m⟩ := h
  have HB := O.has (List.mem_cons_self ..)
  have lt := HB.lt
  have c10 : w.cell? ⟨p, 10, none⟩ = some (.bool G.noted) := HB.cell 10
  rw [hn] at c10
  clear O m HB
  go_enter Try.func42, Try.ntmps42
  go_wp2
  refine bodyPost_ret (v := .tuple #[.agg #[.int .u8 0, .int .u8 0, .int .u8 0, .int .u8 0, .int .u8 0, .int .u8 0, .int .u8 0, .int .u8 0, .int .i64 0, .slice none 0 0], .bool false]) (by simp [results, Try.results42, go_sem]) rfl ⟨rfl, by (repeat' (first | (with_reducible exact Below.refl _ _) | (with_reducible refine bplus ?_ _ _) | (with_reducible refine balloc ?_ _) | (with_reducible refine Below.drew ?_) | (with_reducible refine bdrewN ?_ _) | (with_reducible refine Below.setCell ?_ (by go_size) _)))⟩
theorem newest_nil (w : World) :
    Calls Try.prog 42 #[.pointer none] w fun e w' => e = .returned (.tuple #[.agg #[.int .u8 0, .int .u8 0, .int .u8 0, .int .u8 0, .int .u8 0, .int .u8 0, .int .u8 0, .int .u8 0, .int .i64 0, .slice none 0 0], .bool false]) ∧ Below w.heap.size w w' := by
  go_enter Try.func42, Try.ntmps42
  go_wp2
  refine bodyPost_ret (v := .tuple #[.agg #[.int .u8 0, .int .u8 0, .int .u8 0, .int .u8 0, .int .u8 0, .int .u8 0, .int .u8 0, .int .u8 0, .int .i64 0, .slice none 0 0], .bool false]) (by simp [results, Try.results42, go_sem]) rfl ⟨rfl, by (repeat' (first | (with_reducible exact Below.refl _ _) | (with_reducible refine bplus ?_ _ _) | (with_reducible refine balloc ?_ _) | (with_reducible refine Below.drew ?_) | (with_reducible refine bdrewN ?_ _) | (with_reducible refine Below.setCell ?_ (by go_size) _)))⟩
set_option maxRecDepth 100000 in
set_option maxHeartbeats 4000000 in
theorem newest_yes (p : Nat) (G : GS) (w w0 : World) (C X : List Blk) (h : Gu w w0 C X p G) (hn : G.noted = true) (hl : G.box.length ≤ 1000000) :
    Calls Try.prog 42 #[ptr p] w fun e w' => ∃ u, e = .returned (.tuple #[.agg #[.int .u8 (by8 G.hint 0), .int .u8 (by8 G.hint 1), .int .u8 (by8 G.hint 2), .int .u8 (by8 G.hint 3), .int .u8 (by8 G.hint 4), .int .u8 (by8 G.hint 5), .int .u8 (by8 G.hint 6), .int .u8 (by8 G.hint 7), .int .i64 G.num, u], .bool true]) ∧ Below w.heap.size w w' ∧ Clo 5 w.heap.size G.box u w' := by
  obtain ⟨bv, O, m⟩ := h
  obtain ⟨ab, cb, rfl⟩ := m.slice
  have HB := O.has (List.mem_cons_self ..)
  have lt := HB.lt
  have c10 : w.cell? ⟨p, 10, none⟩ = some (.bool G.noted) := HB.cell 10
  rw [hn] at c10
  have hk := Gu.newest O
  have hk0 := hk 0 (by omega); have hk1 := hk 1 (by omega); have hk2 := hk 2 (by omega); have hk3 := hk 3 (by omega); have hk4 := hk 4 (by omega); have hk5 := hk 5 (by omega); have hk6 := hk 6 (by omega); have hk7 := hk 7 (by omega); have hk8 := hk 8 (by omega); have hk9 := hk 9 (by omega)
  simp only [Nat.reduceAdd, List.getElem?_toArray, List.getElem?_cons_succ, List.getElem?_cons_zero] at hk0 hk1 hk2 hk3 hk4 hk5 hk6 hk7 hk8 hk9
  have HV := Lib.hid ((m.bsl O (fun z hz => by simp [hz])).alloc (.cells #[.int .u8 0, .int .u8 0, .int .u8 0, .int .u8 0, .int .u8 0, .int .u8 0, .int .u8 0, .int .u8 0, .int .i64 0, .slice none 0 0] 29))
  have HO := Lib.hid ((Ow.start w).key #[.int .u8 0, .int .u8 0, .int .u8 0, .int .u8 0, .int .u8 0, .int .u8 0, .int .u8 0, .int .u8 0, .int .i64 0, .slice none 0 0] 29 w.heap.size rfl)
  clear O m HB hk
  go_enter Try.func42, Try.ntmps42
  go_wp2_with fail
  refine (copied_to G.hint G.num _ G.box hl _ HV.out).mono ?_
  rintro e w1 ⟨u, rfl, hb1, au, cu, NB, rfl, R, hNB⟩
  have O1 := (HO.out.found (Ext.of_below hb1) R.apart hNB).perm (L' := ⟨w.heap.size, 29, #[.int .u8 0, .int .u8 0, .int .u8 0, .int .u8 0, .int .u8 0, .int .u8 0, .int .u8 0, .int .u8 0, .int .i64 0, .slice none 0 0]⟩ :: NB) (perm_cnt fun x => by simp only [cnt_append, cnt_cons, cnt_nil] <;> omega)
  have HO1 := Lib.hid O1
  have HR := Lib.hid R
  clear O1 R hNB hb1 HO
  go_wp2_with (refine HO1.out.storeL rfl 29 (.tmp 2) (.tmp 18) rfl (by rfl) #[.int .u8 (by8 G.hint 0), .int .u8 (by8 G.hint 1), .int .u8 (by8 G.hint 2), .int .u8 (by8 G.hint 3), .int .u8 (by8 G.hint 4), .int .u8 (by8 G.hint 5), .int .u8 (by8 G.hint 6), .int .u8 (by8 G.hint 7), .int .i64 G.num, .slice au G.box.length cu] (by rfl) (by kernel_rfl) (by rfl) (by simp [Value.oneCell']) ?_; intro w3 O3)
  have HB3 := O3.has (List.mem_cons_self ..)
  have hd := HB3.cell
  refine bodyPost_ret (v := .tuple #[.agg #[.int .u8 (by8 G.hint 0), .int .u8 (by8 G.hint 1), .int .u8 (by8 G.hint 2), .int .u8 (by8 G.hint 3), .int .u8 (by8 G.hint 4), .int .u8 (by8 G.hint 5), .int .u8 (by8 G.hint 6), .int .u8 (by8 G.hint 7), .int .i64 G.num, .slice au G.box.length cu], .bool true]) (by simp [results, Try.results42, go_sem, hd]) rfl ?_
  exact ⟨_, rfl, O3.below, au, cu, NB, rfl, HR.out, fun z hz => ⟨O3.new z (by simp [hz]), O3.mem.has z (by simp [hz])⟩⟩

def noteE (G : GS) (n : Int) (m : List UInt8) : Nat := if isNum n = false then 2 else if G.noted = true ∧ n ≤ G.num then 18 else if 32768 < m.length then 5 else 0
noncomputable def notedG (G : GS) (n : Int) (m : List UInt8) : GS := { G with noted := true, hint := thintF G.nonce, num := n, box := tboxF G.nonce m }
noncomputable def noteG (G : GS) (n : Int) (m : List UInt8) : GS := if noteE G n m = 0 then notedG G n m else G
theorem note_nil (n : Int) (v : Value) (w : World) : Calls Try.prog 29 #[.pointer none, .int .i64 n, v] w fun e w' => e = .returned (.int .i64 1) ∧ w' = w := by
  go_enter Try.func29, Try.ntmps29
  go_wp2
  go_ret
  exact ⟨rfl, rfl⟩
set_option maxRecDepth 100000 in
theorem note_range (p : Nat) (n : Int) (v : Value) (hn : isNum n = false) (w : World) : Calls Try.prog 29 #[ptr p, .int .i64 n, v] w fun e w' => e = .returned (.int .i64 2) ∧ w' = w := by
  go_enter Try.func29, Try.ntmps29
  go_wp2_with fail
  refine (isNumber_to n false hn _).mono ?_
  rintro e w' ⟨rfl, rfl⟩
  go_wp2
  go_ret
  exact ⟨rfl, rfl⟩
set_option maxRecDepth 100000 in
set_option maxHeartbeats 2000000 in
theorem note_old (p : Nat) (G : GS) (n : Int) (v : Value) (hn : isNum n = true) (w w0 : World) (C X : List Blk) (h : Gu w w0 C X p G) (h1 : G.noted = true) (h2 : n ≤ G.num) :
    Calls Try.prog 29 #[ptr p, .int .i64 n, v] w fun e w' => e = .returned (.int .i64 18) ∧ w' = w := by
  obtain ⟨bv, O, m1⟩ := h
  have HB := O.has (List.mem_cons_self ..)
  have lt := HB.lt
  have c10 : w.cell? ⟨p, 10, none⟩ = some (.bool G.noted) := HB.cell 10
  have c19 : w.cell? ⟨p, 19, none⟩ = some (.int .i64 G.num) := HB.cell 19
  rw [h1] at c10
  have hd : decide (n ≤ G.num) = true := decide_eq_true h2
  clear O m1 HB
  go_enter Try.func29, Try.ntmps29
  go_wp2_with fail
  refine (isNumber_to n true hn _).mono ?_
  rintro e w' ⟨rfl, rfl⟩
  go_wp2
  go_ret
  exact ⟨rfl, rfl⟩
set_option maxRecDepth 100000 in
set_option maxHeartbeats 2000000 in
theorem note_long (p : Nat) (G : GS) (n : Int) (ao : Option Addr) (cap : Nat) (l : List UInt8) (hn : isNum n = true) (w w0 : World) (C X : List Blk) (h : Gu w w0 C X p G) (h2 : ¬(G.noted = true ∧ n ≤ G.num)) (hl : 32768 < l.length) :
    Calls Try.prog 29 #[ptr p, .int .i64 n, .slice ao l.length cap] w fun e w' => e = .returned (.int .i64 5) ∧ Below w.heap.size w w' := by
  obtain ⟨bv, O, m1⟩ := h
  have HB := O.has (List.mem_cons_self ..)
  have lt := HB.lt
  have c10 : w.cell? ⟨p, 10, none⟩ = some (.bool G.noted) := HB.cell 10
  have c19 : w.cell? ⟨p, 19, none⟩ = some (.int .i64 G.num) := HB.cell 19
  have HN := Lib.hid hn
  have hk0 : w.cell? ⟨p, 0, none⟩ = some (.int .u8 (by8 G.nonce 0)) := HB.cell 0
  have hk1 : w.cell? ⟨p, 1, none⟩ = some (.int .u8 (by8 G.nonce 1)) := HB.cell 1
  have hk2 : w.cell? ⟨p, 2, none⟩ = some (.int .u8 (by8 G.nonce 2)) := HB.cell 2
  have hk3 : w.cell? ⟨p, 3, none⟩ = some (.int .u8 (by8 G.nonce 3)) := HB.cell 3
  have hk4 : w.cell? ⟨p, 4, none⟩ = some (.int .u8 (by8 G.nonce 4)) := HB.cell 4
  have hk5 : w.cell? ⟨p, 5, none⟩ = some (.int .u8 (by8 G.nonce 5)) := HB.cell 5
  have hk6 : w.cell? ⟨p, 6, none⟩ = some (.int .u8 (by8 G.nonce 6)) := HB.cell 6
  have hk7 : w.cell? ⟨p, 7, none⟩ = some (.int .u8 (by8 G.nonce 7)) := HB.cell 7
  clear O m1 HB hn
  cases hno : G.noted with
  | true =>
    rw [hno] at c10
    have hd : decide (n ≤ G.num) = false := decide_eq_false (fun h => h2 ⟨hno, h⟩)
    go_enter Try.func29, Try.ntmps29
    go_wp2_with fail
    refine (isNumber_to n true HN.out _).mono ?_
    rintro e w' ⟨rfl, rfl⟩
    go_wp2_with fail
    refine (make_long G.nonce n ao l.length cap hl HN.out _).mono ?_
    rintro e w1 ⟨rfl, hb1⟩
    obtain ⟨g1, d1, rfl⟩ := plus_of_below hb1
    clear hb1
    go_wp2
    go_ret
    exact ⟨rfl, by (repeat' (first | (with_reducible exact Below.refl _ _) | (with_reducible refine bplus ?_ _ _) | (with_reducible refine balloc ?_ _) | (with_reducible refine Below.drew ?_) | (with_reducible refine bdrewN ?_ _) | (with_reducible refine Below.setCell ?_ (by go_size) _)))⟩
  | false =>
    rw [hno] at c10
    go_enter Try.func29, Try.ntmps29
    go_wp2_with fail
    refine (isNumber_to n true HN.out _).mono ?_
    rintro e w' ⟨rfl, rfl⟩
    go_wp2_with fail
    refine (make_long G.nonce n ao l.length cap hl HN.out _).mono ?_
    rintro e w1 ⟨rfl, hb1⟩
    obtain ⟨g1, d1, rfl⟩ := plus_of_below hb1
    clear hb1
    go_wp2
    go_ret
    exact ⟨rfl, by (repeat' (first | (with_reducible exact Below.refl _ _) | (with_reducible refine bplus ?_ _ _) | (with_reducible refine balloc ?_ _) | (with_reducible refine Below.drew ?_) | (with_reducible refine bdrewN ?_ _) | (with_reducible refine Below.setCell ?_ (by go_size) _)))⟩
set_option maxRecDepth 100000 in
set_option maxHeartbeats 4000000 in
theorem note_yes (p : Nat) (G : GS) (n : Int) (v : Value) (l : List UInt8) (hn : isNum n = true) (w w0 : World) (C X : List Blk) (h : Gu w w0 C X p G) (h2 : ¬(G.noted = true ∧ n ≤ G.num)) (hl : l.length ≤ 32768) (hv : BSl w v l) :
    Calls Try.prog 29 #[ptr p, .int .i64 n, v] w fun e w' => e = .returned (.int .i64 0) ∧ ∃ X', Sub X X' ∧ Gu w' w0 C X' p (notedG G n l) := by
  obtain ⟨bv, O, m1⟩ := h
  have HB := O.has (List.mem_cons_self ..)
  have lt := HB.lt
  have c10 : w.cell? ⟨p, 10, none⟩ = some (.bool G.noted) := HB.cell 10
  have c19 : w.cell? ⟨p, 19, none⟩ = some (.int .i64 G.num) := HB.cell 19
  obtain ⟨h, hh⟩ : ∃ h, thintF G.nonce = h := ⟨_, rfl⟩
  obtain ⟨y, hy⟩ : ∃ y, tboxF G.nonce l = y := ⟨_, rfl⟩
  have HH := Lib.hid hh
  have HY := Lib.hid hy
  have HN := Lib.hid hn
  have HV := Lib.hid hv
  have HO := Lib.hid O
  obtain ⟨ao, cap, rfl, -⟩ := hv.open_
  have hk0 : w.cell? ⟨p, 0, none⟩ = some (.int .u8 (by8 G.nonce 0)) := HB.cell 0
  have hk1 : w.cell? ⟨p, 1, none⟩ = some (.int .u8 (by8 G.nonce 1)) := HB.cell 1
  have hk2 : w.cell? ⟨p, 2, none⟩ = some (.int .u8 (by8 G.nonce 2)) := HB.cell 2
  have hk3 : w.cell? ⟨p, 3, none⟩ = some (.int .u8 (by8 G.nonce 3)) := HB.cell 3
  have hk4 : w.cell? ⟨p, 4, none⟩ = some (.int .u8 (by8 G.nonce 4)) := HB.cell 4
  have hk5 : w.cell? ⟨p, 5, none⟩ = some (.int .u8 (by8 G.nonce 5)) := HB.cell 5
  have hk6 : w.cell? ⟨p, 6, none⟩ = some (.int .u8 (by8 G.nonce 6)) := HB.cell 6
  have hk7 : w.cell? ⟨p, 7, none⟩ = some (.int .u8 (by8 G.nonce 7)) := HB.cell 7
  clear O m1 HB hn hh hy hv
  cases hno : G.noted with
  | true =>
    rw [hno] at c10
    have hd : decide (n ≤ G.num) = false := decide_eq_false (fun h => h2 ⟨hno, h⟩)
    go_enter Try.func29, Try.ntmps29
    go_wp2_with fail
    refine (isNumber_to n true HN.out _).mono ?_
    rintro e w' ⟨rfl, rfl⟩
    go_wp2_with fail
    refine (make_to G.nonce n _ l HN.out hl h HH.out y HY.out _ HV.out).mono ?_
    rintro e w1 ⟨u, rfl, hb1, hu⟩
    obtain ⟨NB, O1, M1⟩ := hu.found HO.out (Ext.of_below hb1)
    obtain ⟨au, cu, rfl⟩ := (M1 w0).slice
    have O2 := (O1.key #[.int .u8 (by8 h 0), .int .u8 (by8 h 1), .int .u8 (by8 h 2), .int .u8 (by8 h 3), .int .u8 (by8 h 4), .int .u8 (by8 h 5), .int .u8 (by8 h 6), .int .u8 (by8 h 7), .int .i64 n, .slice au y.length cu] 29 w1.heap.size rfl).perm (L' := ⟨p, 132, gcs G bv⟩ :: (⟨w1.heap.size, 29, #[.int .u8 (by8 h 0), .int .u8 (by8 h 1), .int .u8 (by8 h 2), .int .u8 (by8 h 3), .int .u8 (by8 h 4), .int .u8 (by8 h 5), .int .u8 (by8 h 6), .int .u8 (by8 h 7), .int .i64 n, .slice au y.length cu]⟩ :: (NB ++ (C ++ X)))) (perm_cnt fun x => by simp only [cnt_append, cnt_cons, cnt_nil] <;> omega)
    have HO2 := Lib.hid O2
    have HM := Lib.hid (M1 w0)
    clear hu hb1 O1 M1 O2 HO
    go_wp2_with fail
    refine wp_opq (fun W => Ow W w0 (⟨p, 132, gcs G bv⟩ :: (⟨w1.heap.size, 29, #[.int .u8 (by8 h 0), .int .u8 (by8 h 1), .int .u8 (by8 h 2), .int .u8 (by8 h 3), .int .u8 (by8 h 4), .int .u8 (by8 h 5), .int .u8 (by8 h 6), .int .u8 (by8 h 7), .int .i64 n, .slice au y.length cu]⟩ :: (NB ++ (C ++ X))))) HO2.out ?_
    intro W2 O3
    clear HO2
    have HO3 := Lib.hid O3
    clear O3
    refine wp_region_ov (fun L (_ : Unit) => [(L 0, 40, ptr p), (L 1, 41, ptr p), (L 2, 42, .agg #[.int .u8 (by8 h 0), .int .u8 (by8 h 1), .int .u8 (by8 h 2), .int .u8 (by8 h 3), .int .u8 (by8 h 4), .int .u8 (by8 h 5), .int .u8 (by8 h 6), .int .u8 (by8 h 7), .int .i64 n, .slice au y.length cu]), (L 3, 43, ptr p), (L 4, 44, .pointer (some ⟨p, 10, none⟩)), (L 6, 45, ptr p), (L 7, 46, .pointer (some ⟨p, 11, none⟩))])
      (fun L _ W => Ow W w0 (⟨p, 132, bif L 8 then gcs { G with noted := true, hint := h, num := n, box := y } (.slice au y.length cu) else bif L 5 then gcs { G with noted := true } bv else gcs G bv⟩ :: (⟨w1.heap.size, 29, #[.int .u8 (by8 h 0), .int .u8 (by8 h 1), .int .u8 (by8 h 2), .int .u8 (by8 h 3), .int .u8 (by8 h 4), .int .u8 (by8 h 5), .int .u8 (by8 h 6), .int .u8 (by8 h 7), .int .i64 n, .slice au y.length cu]⟩ :: (NB ++ (C ++ X))))) () (by kernel_rfl) (by kernel_rfl) (by rfl) HO3.out.drew ?_ ⟨?_, ?_, ?_, ?_, ?_, ?_, ?_, ?_, ?_, trivial⟩
    rotate_left
    · (intro L x W hW hC hL hd K hK; (try simp [depsB, Region.binds] at hd); (try simp only [Nat.reduceAdd] at hK hL); simp only [ovl, Array.getD_eq_getD_getElem?, List.getElem?_toArray, List.getElem?_cons_succ, List.getElem?_cons_zero, Option.getD_some, List.setIfInBounds_toArray, List.set_cons_zero, List.set_cons_succ]; (try simp only [hd, cond_true, cond_false]); go_simp; (have h := hK () W hW); simp only [ovl, Array.getD_eq_getD_getElem?, List.getElem?_toArray, List.getElem?_cons_succ, List.getElem?_cons_zero, Option.getD_some, List.setIfInBounds_toArray, List.set_cons_zero, List.set_cons_succ] at h; (try simp (decide := true) only [upd, hd, cond_true, cond_false, Bool.true_or, Bool.false_or, decide_true, decide_false] at h); exact h)
    · (intro L x W hW hC hL hd K hK; (try simp [depsB, Region.binds] at hd); (try simp only [Nat.reduceAdd] at hK hL); simp only [ovl, Array.getD_eq_getD_getElem?, List.getElem?_toArray, List.getElem?_cons_succ, List.getElem?_cons_zero, Option.getD_some, List.setIfInBounds_toArray, List.set_cons_zero, List.set_cons_succ]; (try simp only [hd, cond_true, cond_false]); go_simp; (have h := hK () W hW); simp only [ovl, Array.getD_eq_getD_getElem?, List.getElem?_toArray, List.getElem?_cons_succ, List.getElem?_cons_zero, Option.getD_some, List.setIfInBounds_toArray, List.set_cons_zero, List.set_cons_succ] at h; (try simp (decide := true) only [upd, hd, cond_true, cond_false, Bool.true_or, Bool.false_or, decide_true, decide_false] at h); exact h)
    · intro L x W hW hC hL hd K hK; (try simp [depsB, Region.binds] at hd); (try simp only [Nat.reduceAdd] at hK hL)
      simp only [ovl, Array.getD_eq_getD_getElem?, List.getElem?_toArray, List.getElem?_cons_succ, List.getElem?_cons_zero, Option.getD_some, List.setIfInBounds_toArray, List.set_cons_zero, List.set_cons_succ]; (try simp only [hd, cond_true, cond_false])
      have hb := hW.has (b := w1.heap.size) (t := 29) (cs := #[.int .u8 (by8 h 0), .int .u8 (by8 h 1), .int .u8 (by8 h 2), .int .u8 (by8 h 3), .int .u8 (by8 h 4), .int .u8 (by8 h 5), .int .u8 (by8 h 6), .int .u8 (by8 h 7), .int .i64 n, .slice au y.length cu]) (by simp)
      have hc := hb.cell
      have lt1 := hb.lt
      clear hb
      have hc0 := hc 0; have hc1 := hc 1; have hc2 := hc 2; have hc3 := hc 3; have hc4 := hc 4; have hc5 := hc 5; have hc6 := hc 6; have hc7 := hc 7; have hc8 := hc 8; have hc9 := hc 9
      go_simp
      (have h := hK () W hW); simp only [ovl, Array.getD_eq_getD_getElem?, List.getElem?_toArray, List.getElem?_cons_succ, List.getElem?_cons_zero, Option.getD_some, List.setIfInBounds_toArray, List.set_cons_zero, List.set_cons_succ] at h; (try simp (decide := true) only [upd, hd, cond_true, cond_false, Bool.true_or, Bool.false_or, decide_true, decide_false] at h); exact h
    · (intro L x W hW hC hL hd K hK; (try simp [depsB, Region.binds] at hd); (try simp only [Nat.reduceAdd] at hK hL); simp only [ovl, Array.getD_eq_getD_getElem?, List.getElem?_toArray, List.getElem?_cons_succ, List.getElem?_cons_zero, Option.getD_some, List.setIfInBounds_toArray, List.set_cons_zero, List.set_cons_succ]; (try simp only [hd, cond_true, cond_false]); (have lt1 := (hW.has (List.mem_cons_self ..)).lt); go_simp; (have h := hK () W hW); simp only [ovl, Array.getD_eq_getD_getElem?, List.getElem?_toArray, List.getElem?_cons_succ, List.getElem?_cons_zero, Option.getD_some, List.setIfInBounds_toArray, List.set_cons_zero, List.set_cons_succ] at h; (try simp (decide := true) only [upd, hd, cond_true, cond_false, Bool.true_or, Bool.false_or, decide_true, decide_false] at h); exact h)
    · (intro L x W hW hC hL hd K hK; (try simp [depsB, Region.binds] at hd); (try simp only [Nat.reduceAdd] at hK hL); simp only [ovl, Array.getD_eq_getD_getElem?, List.getElem?_toArray, List.getElem?_cons_succ, List.getElem?_cons_zero, Option.getD_some, List.setIfInBounds_toArray, List.set_cons_zero, List.set_cons_succ]; (try simp only [hd, cond_true, cond_false]); (have lt1 := (hW.has (List.mem_cons_self ..)).lt); go_simp; (have h := hK () W hW); simp only [ovl, Array.getD_eq_getD_getElem?, List.getElem?_toArray, List.getElem?_cons_succ, List.getElem?_cons_zero, Option.getD_some, List.setIfInBounds_toArray, List.set_cons_zero, List.set_cons_succ] at h; (try simp (decide := true) only [upd, hd, cond_true, cond_false, Bool.true_or, Bool.false_or, decide_true, decide_false] at h); exact h)
    · intro L x W hW hC hL hd K hK; (try simp [depsB, Region.binds] at hd); (try simp only [Nat.reduceAdd] at hK hL)
      (have h8 : L 8 = false := by cases hl : L 8 with | false => rfl | true => have hx := hC 8 _ rfl hl; simp [depsB, Region.binds, hL, hd] at hx); (replace hd := And.intro hd h8)
      simp only [hL, h8, cond_false] at hW
      simp only [ovl, Array.getD_eq_getD_getElem?, List.getElem?_toArray, List.getElem?_cons_succ, List.getElem?_cons_zero, Option.getD_some, List.setIfInBounds_toArray, List.set_cons_zero, List.set_cons_succ]; (try simp only [hd, cond_true, cond_false])
      have hb := hW.has (List.mem_cons_self ..)
      have d10 := hb.cell 10
      have e10 := hb.frozen 10
      have lt1 := hb.lt
      clear hb
      have d10' : W.cell? ⟨p, 10, none⟩ = some (.bool G.noted) := d10
      clear d10
      go_simp
      have O5 := hW.set 10 (.bool true)
      rw [gcs_noted] at O5
      (have h := hK () _ (by simpa [upd, h8] using O5)); simp only [ovl, Array.getD_eq_getD_getElem?, List.getElem?_toArray, List.getElem?_cons_succ, List.getElem?_cons_zero, Option.getD_some, List.setIfInBounds_toArray, List.set_cons_zero, List.set_cons_succ] at h; (try simp (decide := true) only [upd, hd, cond_true, cond_false, Bool.true_or, Bool.false_or, decide_true, decide_false] at h); exact h
    · (intro L x W hW hC hL hd K hK; (try simp [depsB, Region.binds] at hd); (try simp only [Nat.reduceAdd] at hK hL); simp only [ovl, Array.getD_eq_getD_getElem?, List.getElem?_toArray, List.getElem?_cons_succ, List.getElem?_cons_zero, Option.getD_some, List.setIfInBounds_toArray, List.set_cons_zero, List.set_cons_succ]; (try simp only [hd, cond_true, cond_false]); (have lt1 := (hW.has (List.mem_cons_self ..)).lt); go_simp; (have h := hK () W hW); simp only [ovl, Array.getD_eq_getD_getElem?, List.getElem?_toArray, List.getElem?_cons_succ, List.getElem?_cons_zero, Option.getD_some, List.setIfInBounds_toArray, List.set_cons_zero, List.set_cons_succ] at h; (try simp (decide := true) only [upd, hd, cond_true, cond_false, Bool.true_or, Bool.false_or, decide_true, decide_false] at h); exact h)
    · (intro L x W hW hC hL hd K hK; (try simp [depsB, Region.binds] at hd); (try simp only [Nat.reduceAdd] at hK hL); simp only [ovl, Array.getD_eq_getD_getElem?, List.getElem?_toArray, List.getElem?_cons_succ, List.getElem?_cons_zero, Option.getD_some, List.setIfInBounds_toArray, List.set_cons_zero, List.set_cons_succ]; (try simp only [hd, cond_true, cond_false]); (have lt1 := (hW.has (List.mem_cons_self ..)).lt); go_simp; (have h := hK () W hW); simp only [ovl, Array.getD_eq_getD_getElem?, List.getElem?_toArray, List.getElem?_cons_succ, List.getElem?_cons_zero, Option.getD_some, List.setIfInBounds_toArray, List.set_cons_zero, List.set_cons_succ] at h; (try simp (decide := true) only [upd, hd, cond_true, cond_false, Bool.true_or, Bool.false_or, decide_true, decide_false] at h); exact h)
    · intro L x W hW hC hL hd K hK; (try simp [depsB, Region.binds] at hd); (try simp only [Nat.reduceAdd] at hK hL)
      have h5 : L 5 = true := by simp only [hd]
      simp only [hL, h5, cond_false, cond_true] at hW
      simp only [ovl, Array.getD_eq_getD_getElem?, List.getElem?_toArray, List.getElem?_cons_succ, List.getElem?_cons_zero, Option.getD_some, List.setIfInBounds_toArray, List.set_cons_zero, List.set_cons_succ]; (try simp only [hd, cond_true, cond_false])
      refine hW.storeAt 29 (.tmp 46) (.tmp 42) (by rfl) 11 (by rfl) #[.int .u8 (by8 h 0), .int .u8 (by8 h 1), .int .u8 (by8 h 2), .int .u8 (by8 h 3), .int .u8 (by8 h 4), .int .u8 (by8 h 5), .int .u8 (by8 h 6), .int .u8 (by8 h 7), .int .i64 n, .slice au y.length cu] (by rfl) (by kernel_rfl) (by rw [gcs_size]; simp) (by simp [Value.oneCell']) (fun W5 O5 => ?_)
      have O6 : Ow W5 w0 (⟨p, 132, gcs { G with noted := true, hint := h, num := n, box := y } (.slice au y.length cu)⟩ :: (⟨w1.heap.size, 29, #[.int .u8 (by8 h 0), .int .u8 (by8 h 1), .int .u8 (by8 h 2), .int .u8 (by8 h 3), .int .u8 (by8 h 4), .int .u8 (by8 h 5), .int .u8 (by8 h 6), .int .u8 (by8 h 7), .int .i64 n, .slice au y.length cu]⟩ :: (NB ++ (C ++ X)))) := by
        have e := gcs_newest { G with noted := true } bv h n (.slice au y.length cu) y
        unfold apc at e
        rw [e] at O5
        exact O5
      (have h := hK () W5 (by simpa [upd] using O6)); simp only [ovl, Array.getD_eq_getD_getElem?, List.getElem?_toArray, List.getElem?_cons_succ, List.getElem?_cons_zero, Option.getD_some, List.setIfInBounds_toArray, List.set_cons_zero, List.set_cons_succ] at h; (try simp (decide := true) only [upd, hd, cond_true, cond_false, Bool.true_or, Bool.false_or, decide_true, decide_false] at h); exact h
    intro x W9 hW9
    simp only [ovl, cond_true, Array.getD_eq_getD_getElem?, List.getElem?_toArray, List.getElem?_cons_succ, List.getElem?_cons_zero, Option.getD_some, List.setIfInBounds_toArray, List.set_cons_zero, List.set_cons_succ]
    simp only [cond_true] at hW9
    have HW9 := Lib.hid hW9
    clear hW9
    go_wp2
    go_ret
    refine ⟨rfl, NB ++ (⟨w1.heap.size, 29, #[.int .u8 (by8 h 0), .int .u8 (by8 h 1), .int .u8 (by8 h 2), .int .u8 (by8 h 3), .int .u8 (by8 h 4), .int .u8 (by8 h 5), .int .u8 (by8 h 6), .int .u8 (by8 h 7), .int .i64 n, .slice au y.length cu]⟩ :: X), fun z hz => by simp [hz], .slice au y.length cu, ?_, by rw [show (notedG G n l).box = y from HY.out]; exact HM.out.mono (fun z hz => by simp [hz])⟩
    have e : notedG G n l = { G with noted := true, hint := h, num := n, box := y } := by unfold notedG; rw [HH.out, HY.out]
    rw [e]
    exact HW9.out.perm (perm_cnt fun x => by simp only [cnt_append, cnt_cons, cnt_nil] <;> omega)
  | false =>
    rw [hno] at c10
    go_enter Try.func29, Try.ntmps29
    go_wp2_with fail
    refine (isNumber_to n true HN.out _).mono ?_
    rintro e w' ⟨rfl, rfl⟩
    go_wp2_with fail
    refine (make_to G.nonce n _ l HN.out hl h HH.out y HY.out _ HV.out).mono ?_
    rintro e w1 ⟨u, rfl, hb1, hu⟩
    obtain ⟨NB, O1, M1⟩ := hu.found HO.out (Ext.of_below hb1)
    obtain ⟨au, cu, rfl⟩ := (M1 w0).slice
    have O2 := (O1.key #[.int .u8 (by8 h 0), .int .u8 (by8 h 1), .int .u8 (by8 h 2), .int .u8 (by8 h 3), .int .u8 (by8 h 4), .int .u8 (by8 h 5), .int .u8 (by8 h 6), .int .u8 (by8 h 7), .int .i64 n, .slice au y.length cu] 29 w1.heap.size rfl).perm (L' := ⟨p, 132, gcs G bv⟩ :: (⟨w1.heap.size, 29, #[.int .u8 (by8 h 0), .int .u8 (by8 h 1), .int .u8 (by8 h 2), .int .u8 (by8 h 3), .int .u8 (by8 h 4), .int .u8 (by8 h 5), .int .u8 (by8 h 6), .int .u8 (by8 h 7), .int .i64 n, .slice au y.length cu]⟩ :: (NB ++ (C ++ X)))) (perm_cnt fun x => by simp only [cnt_append, cnt_cons, cnt_nil] <;> omega)
    have HO2 := Lib.hid O2
    have HM := Lib.hid (M1 w0)
    clear hu hb1 O1 M1 O2 HO
    go_wp2_with fail
    refine wp_opq (fun W => Ow W w0 (⟨p, 132, gcs G bv⟩ :: (⟨w1.heap.size, 29, #[.int .u8 (by8 h 0), .int .u8 (by8 h 1), .int .u8 (by8 h 2), .int .u8 (by8 h 3), .int .u8 (by8 h 4), .int .u8 (by8 h 5), .int .u8 (by8 h 6), .int .u8 (by8 h 7), .int .i64 n, .slice au y.length cu]⟩ :: (NB ++ (C ++ X))))) HO2.out ?_
    intro W2 O3
    clear HO2
    have HO3 := Lib.hid O3
    clear O3
    refine wp_region_ov (fun L (_ : Unit) => [(L 0, 40, ptr p), (L 1, 41, ptr p), (L 2, 42, .agg #[.int .u8 (by8 h 0), .int .u8 (by8 h 1), .int .u8 (by8 h 2), .int .u8 (by8 h 3), .int .u8 (by8 h 4), .int .u8 (by8 h 5), .int .u8 (by8 h 6), .int .u8 (by8 h 7), .int .i64 n, .slice au y.length cu]), (L 3, 43, ptr p), (L 4, 44, .pointer (some ⟨p, 10, none⟩)), (L 6, 45, ptr p), (L 7, 46, .pointer (some ⟨p, 11, none⟩))])
      (fun L _ W => Ow W w0 (⟨p, 132, bif L 8 then gcs { G with noted := true, hint := h, num := n, box := y } (.slice au y.length cu) else bif L 5 then gcs { G with noted := true } bv else gcs G bv⟩ :: (⟨w1.heap.size, 29, #[.int .u8 (by8 h 0), .int .u8 (by8 h 1), .int .u8 (by8 h 2), .int .u8 (by8 h 3), .int .u8 (by8 h 4), .int .u8 (by8 h 5), .int .u8 (by8 h 6), .int .u8 (by8 h 7), .int .i64 n, .slice au y.length cu]⟩ :: (NB ++ (C ++ X))))) () (by kernel_rfl) (by kernel_rfl) (by rfl) HO3.out.drew ?_ ⟨?_, ?_, ?_, ?_, ?_, ?_, ?_, ?_, ?_, trivial⟩
    rotate_left
    · (intro L x W hW hC hL hd K hK; (try simp [depsB, Region.binds] at hd); (try simp only [Nat.reduceAdd] at hK hL); simp only [ovl, Array.getD_eq_getD_getElem?, List.getElem?_toArray, List.getElem?_cons_succ, List.getElem?_cons_zero, Option.getD_some, List.setIfInBounds_toArray, List.set_cons_zero, List.set_cons_succ]; (try simp only [hd, cond_true, cond_false]); go_simp; (have h := hK () W hW); simp only [ovl, Array.getD_eq_getD_getElem?, List.getElem?_toArray, List.getElem?_cons_succ, List.getElem?_cons_zero, Option.getD_some, List.setIfInBounds_toArray, List.set_cons_zero, List.set_cons_succ] at h; (try simp (decide := true) only [upd, hd, cond_true, cond_false, Bool.true_or, Bool.false_or, decide_true, decide_false] at h); exact h)
    · (intro L x W hW hC hL hd K hK; (try simp [depsB, Region.binds] at hd); (try simp only [Nat.reduceAdd] at hK hL); simp only [ovl, Array.getD_eq_getD_getElem?, List.getElem?_toArray, List.getElem?_cons_succ, List.getElem?_cons_zero, Option.getD_some, List.setIfInBounds_toArray, List.set_cons_zero, List.set_cons_succ]; (try simp only [hd, cond_true, cond_false]); go_simp; (have h := hK () W hW); simp only [ovl, Array.getD_eq_getD_getElem?, List.getElem?_toArray, List.getElem?_cons_succ, List.getElem?_cons_zero, Option.getD_some, List.setIfInBounds_toArray, List.set_cons_zero, List.set_cons_succ] at h; (try simp (decide := true) only [upd, hd, cond_true, cond_false, Bool.true_or, Bool.false_or, decide_true, decide_false] at h); exact h)
    · intro L x W hW hC hL hd K hK; (try simp [depsB, Region.binds] at hd); (try simp only [Nat.reduceAdd] at hK hL)
      simp only [ovl, Array.getD_eq_getD_getElem?, List.getElem?_toArray, List.getElem?_cons_succ, List.getElem?_cons_zero, Option.getD_some, List.setIfInBounds_toArray, List.set_cons_zero, List.set_cons_succ]; (try simp only [hd, cond_true, cond_false])
      have hb := hW.has (b := w1.heap.size) (t := 29) (cs := #[.int .u8 (by8 h 0), .int .u8 (by8 h 1), .int .u8 (by8 h 2), .int .u8 (by8 h 3), .int .u8 (by8 h 4), .int .u8 (by8 h 5), .int .u8 (by8 h 6), .int .u8 (by8 h 7), .int .i64 n, .slice au y.length cu]) (by simp)
      have hc := hb.cell
      have lt1 := hb.lt
      clear hb
      have hc0 := hc 0; have hc1 := hc 1; have hc2 := hc 2; have hc3 := hc 3; have hc4 := hc 4; have hc5 := hc 5; have hc6 := hc 6; have hc7 := hc 7; have hc8 := hc 8; have hc9 := hc 9
      go_simp
      (have h := hK () W hW); simp only [ovl, Array.getD_eq_getD_getElem?, List.getElem?_toArray, List.getElem?_cons_succ, List.getElem?_cons_zero, Option.getD_some, List.setIfInBounds_toArray, List.set_cons_zero, List.set_cons_succ] at h; (try simp (decide := true) only [upd, hd, cond_true, cond_false, Bool.true_or, Bool.false_or, decide_true, decide_false] at h); exact h
    · (intro L x W hW hC hL hd K hK; (try simp [depsB, Region.binds] at hd); (try simp only [Nat.reduceAdd] at hK hL); simp only [ovl, Array.getD_eq_getD_getElem?, List.getElem?_toArray, List.getElem?_cons_succ, List.getElem?_cons_zero, Option.getD_some, List.setIfInBounds_toArray, List.set_cons_zero, List.set_cons_succ]; (try simp only [hd, cond_true, cond_false]); (have lt1 := (hW.has (List.mem_cons_self ..)).lt); go_simp; (have h := hK () W hW); simp only [ovl, Array.getD_eq_getD_getElem?, List.getElem?_toArray, List.getElem?_cons_succ, List.getElem?_cons_zero, Option.getD_some, List.setIfInBounds_toArray, List.set_cons_zero, List.set_cons_succ] at h; (try simp (decide := true) only [upd, hd, cond_true, cond_false, Bool.true_or, Bool.false_or, decide_true, decide_false] at h); exact h)
    · (intro L x W hW hC hL hd K hK; (try simp [depsB, Region.binds] at hd); (try simp only [Nat.reduceAdd] at hK hL); simp only [ovl, Array.getD_eq_getD_getElem?, List.getElem?_toArray, List.getElem?_cons_succ, List.getElem?_cons_zero, Option.getD_some, List.setIfInBounds_toArray, List.set_cons_zero, List.set_cons_succ]; (try simp only [hd, cond_true, cond_false]); (have lt1 := (hW.has (List.mem_cons_self ..)).lt); go_simp; (have h := hK () W hW); simp only [ovl, Array.getD_eq_getD_getElem?, List.getElem?_toArray, List.getElem?_cons_succ, List.getElem?_cons_zero, Option.getD_some, List.setIfInBounds_toArray, List.set_cons_zero, List.set_cons_succ] at h; (try simp (decide := true) only [upd, hd, cond_true, cond_false, Bool.true_or, Bool.false_or, decide_true, decide_false] at h); exact h)
    · intro L x W hW hC hL hd K hK; (try simp [depsB, Region.binds] at hd); (try simp only [Nat.reduceAdd] at hK hL)
      (have h8 : L 8 = false := by cases hl : L 8 with | false => rfl | true => have hx := hC 8 _ rfl hl; simp [depsB, Region.binds, hL, hd] at hx); (replace hd := And.intro hd h8)
      simp only [hL, h8, cond_false] at hW
      simp only [ovl, Array.getD_eq_getD_getElem?, List.getElem?_toArray, List.getElem?_cons_succ, List.getElem?_cons_zero, Option.getD_some, List.setIfInBounds_toArray, List.set_cons_zero, List.set_cons_succ]; (try simp only [hd, cond_true, cond_false])
      have hb := hW.has (List.mem_cons_self ..)
      have d10 := hb.cell 10
      have e10 := hb.frozen 10
      have lt1 := hb.lt
      clear hb
      have d10' : W.cell? ⟨p, 10, none⟩ = some (.bool G.noted) := d10
      clear d10
      go_simp
      have O5 := hW.set 10 (.bool true)
      rw [gcs_noted] at O5
      (have h := hK () _ (by simpa [upd, h8] using O5)); simp only [ovl, Array.getD_eq_getD_getElem?, List.getElem?_toArray, List.getElem?_cons_succ, List.getElem?_cons_zero, Option.getD_some, List.setIfInBounds_toArray, List.set_cons_zero, List.set_cons_succ] at h; (try simp (decide := true) only [upd, hd, cond_true, cond_false, Bool.true_or, Bool.false_or, decide_true, decide_false] at h); exact h
    · (intro L x W hW hC hL hd K hK; (try simp [depsB, Region.binds] at hd); (try simp only [Nat.reduceAdd] at hK hL); simp only [ovl, Array.getD_eq_getD_getElem?, List.getElem?_toArray, List.getElem?_cons_succ, List.getElem?_cons_zero, Option.getD_some, List.setIfInBounds_toArray, List.set_cons_zero, List.set_cons_succ]; (try simp only [hd, cond_true, cond_false]); (have lt1 := (hW.has (List.mem_cons_self ..)).lt); go_simp; (have h := hK () W hW); simp only [ovl, Array.getD_eq_getD_getElem?, List.getElem?_toArray, List.getElem?_cons_succ, List.getElem?_cons_zero, Option.getD_some, List.setIfInBounds_toArray, List.set_cons_zero, List.set_cons_succ] at h; (try simp (decide := true) only [upd, hd, cond_true, cond_false, Bool.true_or, Bool.false_or, decide_true, decide_false] at h); exact h)
    · (intro L x W hW hC hL hd K hK; (try simp [depsB, Region.binds] at hd); (try simp only [Nat.reduceAdd] at hK hL); simp only [ovl, Array.getD_eq_getD_getElem?, List.getElem?_toArray, List.getElem?_cons_succ, List.getElem?_cons_zero, Option.getD_some, List.setIfInBounds_toArray, List.set_cons_zero, List.set_cons_succ]; (try simp only [hd, cond_true, cond_false]); (have lt1 := (hW.has (List.mem_cons_self ..)).lt); go_simp; (have h := hK () W hW); simp only [ovl, Array.getD_eq_getD_getElem?, List.getElem?_toArray, List.getElem?_cons_succ, List.getElem?_cons_zero, Option.getD_some, List.setIfInBounds_toArray, List.set_cons_zero, List.set_cons_succ] at h; (try simp (decide := true) only [upd, hd, cond_true, cond_false, Bool.true_or, Bool.false_or, decide_true, decide_false] at h); exact h)
    · intro L x W hW hC hL hd K hK; (try simp [depsB, Region.binds] at hd); (try simp only [Nat.reduceAdd] at hK hL)
      have h5 : L 5 = true := by simp only [hd]
      simp only [hL, h5, cond_false, cond_true] at hW
      simp only [ovl, Array.getD_eq_getD_getElem?, List.getElem?_toArray, List.getElem?_cons_succ, List.getElem?_cons_zero, Option.getD_some, List.setIfInBounds_toArray, List.set_cons_zero, List.set_cons_succ]; (try simp only [hd, cond_true, cond_false])
      refine hW.storeAt 29 (.tmp 46) (.tmp 42) (by rfl) 11 (by rfl) #[.int .u8 (by8 h 0), .int .u8 (by8 h 1), .int .u8 (by8 h 2), .int .u8 (by8 h 3), .int .u8 (by8 h 4), .int .u8 (by8 h 5), .int .u8 (by8 h 6), .int .u8 (by8 h 7), .int .i64 n, .slice au y.length cu] (by rfl) (by kernel_rfl) (by rw [gcs_size]; simp) (by simp [Value.oneCell']) (fun W5 O5 => ?_)
      have O6 : Ow W5 w0 (⟨p, 132, gcs { G with noted := true, hint := h, num := n, box := y } (.slice au y.length cu)⟩ :: (⟨w1.heap.size, 29, #[.int .u8 (by8 h 0), .int .u8 (by8 h 1), .int .u8 (by8 h 2), .int .u8 (by8 h 3), .int .u8 (by8 h 4), .int .u8 (by8 h 5), .int .u8 (by8 h 6), .int .u8 (by8 h 7), .int .i64 n, .slice au y.length cu]⟩ :: (NB ++ (C ++ X)))) := by
        have e := gcs_newest { G with noted := true } bv h n (.slice au y.length cu) y
        unfold apc at e
        rw [e] at O5
        exact O5
      (have h := hK () W5 (by simpa [upd] using O6)); simp only [ovl, Array.getD_eq_getD_getElem?, List.getElem?_toArray, List.getElem?_cons_succ, List.getElem?_cons_zero, Option.getD_some, List.setIfInBounds_toArray, List.set_cons_zero, List.set_cons_succ] at h; (try simp (decide := true) only [upd, hd, cond_true, cond_false, Bool.true_or, Bool.false_or, decide_true, decide_false] at h); exact h
    intro x W9 hW9
    simp only [ovl, cond_true, Array.getD_eq_getD_getElem?, List.getElem?_toArray, List.getElem?_cons_succ, List.getElem?_cons_zero, Option.getD_some, List.setIfInBounds_toArray, List.set_cons_zero, List.set_cons_succ]
    simp only [cond_true] at hW9
    have HW9 := Lib.hid hW9
    clear hW9
    go_wp2
    go_ret
    refine ⟨rfl, NB ++ (⟨w1.heap.size, 29, #[.int .u8 (by8 h 0), .int .u8 (by8 h 1), .int .u8 (by8 h 2), .int .u8 (by8 h 3), .int .u8 (by8 h 4), .int .u8 (by8 h 5), .int .u8 (by8 h 6), .int .u8 (by8 h 7), .int .i64 n, .slice au y.length cu]⟩ :: X), fun z hz => by simp [hz], .slice au y.length cu, ?_, by rw [show (notedG G n l).box = y from HY.out]; exact HM.out.mono (fun z hz => by simp [hz])⟩
    have e : notedG G n l = { G with noted := true, hint := h, num := n, box := y } := by unfold notedG; rw [HH.out, HY.out]
    rw [e]
    exact HW9.out.perm (perm_cnt fun x => by simp only [cnt_append, cnt_cons, cnt_nil] <;> omega)
theorem note_to (p : Nat) (G : GS) (n : Int) (v : Value) (l : List UInt8) (w w0 : World) (C X : List Blk) (h : Gu w w0 C X p G) (hv : BSl w v l) (E : Nat) (hE : noteE G n l = E) (G' : GS) (hG : noteG G n l = G') :
    Calls Try.prog 29 #[ptr p, .int .i64 n, v] w fun e w' => e = .returned (.int .i64 E) ∧ ∃ X', Sub X X' ∧ Gu w' w0 C X' p G' := by
  unfold noteG at hG
  rw [hE] at hG
  unfold noteE at hE
  by_cases hn : isNum n = true
  · rw [if_neg (by rw [hn]; simp)] at hE
    by_cases h2 : G.noted = true ∧ n ≤ G.num
    · rw [if_pos h2] at hE
      subst hE
      rw [if_neg (by omega)] at hG
      subst hG
      refine (note_old p G n v hn w w0 C X h h2.1 h2.2).mono ?_
      rintro e w' ⟨rfl, rfl⟩
      exact ⟨rfl, X, Sub.refl X, h⟩
    · rw [if_neg h2] at hE
      by_cases hl : 32768 < l.length
      · rw [if_pos hl] at hE
        subst hE
        rw [if_neg (by omega)] at hG
        subst hG
        obtain ⟨ao, cap, rfl, -⟩ := hv.open_
        refine (note_long p G n ao cap l hn w w0 C X h h2 hl).mono ?_
        rintro e w' ⟨rfl, hb⟩
        exact ⟨rfl, X, Sub.refl X, h.of_below hb⟩
      · rw [if_neg hl] at hE
        subst hE
        rw [if_pos rfl] at hG
        subst hG
        exact note_yes p G n v l hn w w0 C X h h2 (by omega) hv
  · rw [if_pos (by simpa using hn)] at hE
    subst hE
    rw [if_neg (by omega)] at hG
    subst hG
    refine (note_range p n v (by simpa using hn) w).mono ?_
    rintro e w' ⟨rfl, rfl⟩
    exact ⟨rfl, X, Sub.refl X, h⟩

end Go.Proofs.Ytghaiplhakeahaa
