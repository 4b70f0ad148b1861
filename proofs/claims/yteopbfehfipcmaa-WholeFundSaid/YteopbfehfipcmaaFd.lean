/- fund: a fund's cells; contracts of has, full, Lay, Back, Phase, Given, Held, Clone. -/
import Derived.Test.YteopbfehfipcmaaFc
import Derived.Test.YteopbfehfipcmaaAe
namespace Go.Proofs.Yteopbfehfipcmaa
set_option linter.unusedSimpArgs false
set_option linter.unusedVariables false
open Go.RowKit

/-- What a fund is. -/
structure FU where
  n : Nat
  st : Nat → Int
  ld : Nat → Bool
  by_ : Int
def fcs (F : FU) : Array Value := #[.int .i64 F.n, .int .i64 (F.st 0), .int .i64 (F.st 1), .int .i64 (F.st 2), .int .i64 (F.st 3), .int .i64 (F.st 4), .int .i64 (F.st 5), .int .i64 (F.st 6), .int .i64 (F.st 7), .bool (F.ld 0), .bool (F.ld 1), .bool (F.ld 2), .bool (F.ld 3), .bool (F.ld 4), .bool (F.ld 5), .bool (F.ld 6), .bool (F.ld 7), .int .i64 F.by_]
theorem fcs_st (F : FU) (k : Nat) (hk : k < 8) : (fcs F)[1 + k]? = some (.int .i64 (F.st k)) := by
  rcases (by omega : k = 0 ∨ k = 1 ∨ k = 2 ∨ k = 3 ∨ k = 4 ∨ k = 5 ∨ k = 6 ∨ k = 7) with rfl | rfl | rfl | rfl | rfl | rfl | rfl | rfl <;> rfl
theorem fcs_ld (F : FU) (k : Nat) (hk : k < 8) : (fcs F)[9 + k]? = some (.bool (F.ld k)) := by
  rcases (by omega : k = 0 ∨ k = 1 ∨ k = 2 ∨ k = 3 ∨ k = 4 ∨ k = 5 ∨ k = 6 ∨ k = 7) with rfl | rfl | rfl | rfl | rfl | rfl | rfl | rfl <;> rfl
def FU.lay (F : FU) (k : Nat) (b : Bool) : FU := { F with ld := fun i => if i = k then b else F.ld i }
theorem fcs_lay (F : FU) (k : Nat) (hk : k < 8) (b : Bool) : (fcs F).setIfInBounds (9 + k) (.bool b) = fcs (F.lay k b) := by
  rcases (by omega : k = 0 ∨ k = 1 ∨ k = 2 ∨ k = 3 ∨ k = 4 ∨ k = 5 ∨ k = 6 ∨ k = 7) with rfl | rfl | rfl | rfl | rfl | rfl | rfl | rfl <;> rfl
def fullB (F : FU) : Bool := (List.range 8).all fun i => F.ld i == decide (i < F.n)
theorem run_eq_bools {P : Program} (w : World) (t e : TypeId) (n : Nat) (ht : P.underlying t = some (.array n e)) (he : P.underlying e = some .bool) (hs : (sizeOf e).run P w = .ok 1 w) (xs ys : Array Value) (f g : Nat → Bool)
    (hx : ∀ i, i < n → xs[i]? = some (.bool (f i))) (hy : ∀ i, i < n → ys[i]? = some (.bool (g i))) :
    (Op.equalIn 10000 t (.agg xs) (.agg ys)).run P w = .ok ((List.range n).all fun i => f i == g i) w := by
  have hp : ∀ (zs : Array Value) (h : Nat → Bool), (∀ i, i < n → zs[i]? = some (.bool (h i))) → ∀ i, i < n → (part e zs (i * 1)).run P w = .ok (.bool (h i)) w := fun zs h hz i hi => by
    simp [part, isAgg, run_underlying he, hz i hi]
  exact run_eq_array w 9998 t e n 1 ht hs xs ys (fun i => .bool (f i)) (fun i => .bool (g i)) _ (hp xs f hx) (hp ys g hy) (fun i hi => run_equalIn_bool w 9998 e _ _ he)
theorem size_bool (w : World) : (sizeOf 4).run Try.prog w = .ok 1 w := by kernel_rfl
theorem bools_eq (f g : Nat → Bool) (w : World) (r : Bool) (hr : ((List.range 8).all fun i => f i == g i) = r) : (Op.equalIn 10000 55 (.agg #[.bool (f 0), .bool (f 1), .bool (f 2), .bool (f 3), .bool (f 4), .bool (f 5), .bool (f 6), .bool (f 7)]) (.agg #[.bool (g 0), .bool (g 1), .bool (g 2), .bool (g 3), .bool (g 4), .bool (g 5), .bool (g 6), .bool (g 7)])).run Try.prog w = .ok r w := by
  refine (run_eq_bools w 55 4 8 Try.underlying55 Try.underlying4 (size_bool w) _ _ f g (fun k hk => ?_) (fun k hk => ?_)).trans (by rw [hr])
  · rcases (by omega : k = 0 ∨ k = 1 ∨ k = 2 ∨ k = 3 ∨ k = 4 ∨ k = 5 ∨ k = 6 ∨ k = 7) with rfl | rfl | rfl | rfl | rfl | rfl | rfl | rfl <;> rfl
  · rcases (by omega : k = 0 ∨ k = 1 ∨ k = 2 ∨ k = 3 ∨ k = 4 ∨ k = 5 ∨ k = 6 ∨ k = 7) with rfl | rfl | rfl | rfl | rfl | rfl | rfl | rfl <;> rfl
section
variable {w w0 : World} {p : Nat} {F : FU}
set_option maxRecDepth 100000 in
theorem fhas_to (p k : Nat) (F : FU) (w : World) (hb : HasBlk w p 57 (fcs F)) (hk : k < F.n) :
    Calls Try.prog 21 #[ptr p, .int .i64 k] w fun e w' => e = .returned (.bool true) ∧ w' = w := by
  have c0 : w.cell? ⟨p, 0, none⟩ = some (.int .i64 F.n) := hb.cell 0
  have lt := hb.lt
  clear hb
  go_enter Try.func21, Try.ntmps21
  go_wp2
  go_ret
  exact ⟨rfl, rfl⟩
def midB (n i : Nat) : Nat → Bool := fun j => decide (j < i)
set_option maxRecDepth 100000 in
set_option maxHeartbeats 2000000 in
theorem full_to (p : Nat) (F : FU) (w : World) (hb : HasBlk w p 57 (fcs F)) (h8 : F.n ≤ 8) (E : Bool) (hE : fullB F = E) :
    Calls Try.prog 22 #[ptr p] w fun e w' => e = .returned (.bool E) ∧ Below w.heap.size w w' := by
  have c0 : w.cell? ⟨p, 0, none⟩ = some (.int .i64 F.n) := hb.cell 0
  have lt := hb.lt
  have HB := Lib.hid hb
  have HO := Lib.hid ((Ow.start w).key #[.bool false, .bool false, .bool false, .bool false, .bool false, .bool false, .bool false, .bool false] 55 w.heap.size rfl)
  clear hb
  go_enter Try.func22, Try.ntmps22
  go_wp2_with fail
  go_loopw [9] (fun v wr => ∃ i : Nat, v = .int .i64 i ∧ i ≤ F.n ∧ Ow wr w [⟨w.heap.size, 55, #[.bool (midB F.n i 0), .bool (midB F.n i 1), .bool (midB F.n i 2), .bool (midB F.n i 3), .bool (midB F.n i 4), .bool (midB F.n i 5), .bool (midB F.n i 6), .bool (midB F.n i 7)]⟩]) (fun v _ => F.n - (intOf v).toNat)
  case atStart => exact ⟨0, rfl, by omega, by simpa [midB] using HO.out⟩
  case round =>
    obtain ⟨i, rfl, hi, O5⟩ := hrel
    have HO5 := Lib.hid O5
    have hx := O5.has (List.mem_cons_self ..)
    have lx := hx.lt
    by_cases hlt : i < F.n
    · have ci : wr.cell? ⟨w.heap.size, i, none⟩ = some (.bool (midB F.n i i)) := by
        rw [hx.cell]
        rcases (by omega : i = 0 ∨ i = 1 ∨ i = 2 ∨ i = 3 ∨ i = 4 ∨ i = 5 ∨ i = 6 ∨ i = 7) with rfl | rfl | rfl | rfl | rfl | rfl | rfl | rfl <;> rfl
      have fi := hx.frozen i
      clear hx O5
      have hi8 : i < 8 := by omega
      go_wp2
      have O6 := HO5.out.set i (.bool true)
      refine ⟨⟨i + 1, by simp, by omega, O6.as ?_⟩, by simp [intOf]; omega⟩
      congr 2
      rcases (by omega : i = 0 ∨ i = 1 ∨ i = 2 ∨ i = 3 ∨ i = 4 ∨ i = 5 ∨ i = 6 ∨ i = 7) with rfl | rfl | rfl | rfl | rfl | rfl | rfl | rfl <;> rfl
    · obtain rfl : i = F.n := by omega
      have hbp : HasBlk wr p 57 (fcs F) := (O5.below.block p lt).trans HB.out
      (have p0 : wr.cell? ⟨p, 9, none⟩ = some (.bool (F.ld 0)) := hbp.cell 9); (have p1 : wr.cell? ⟨p, 10, none⟩ = some (.bool (F.ld 1)) := hbp.cell 10); (have p2 : wr.cell? ⟨p, 11, none⟩ = some (.bool (F.ld 2)) := hbp.cell 11); (have p3 : wr.cell? ⟨p, 12, none⟩ = some (.bool (F.ld 3)) := hbp.cell 12); (have p4 : wr.cell? ⟨p, 13, none⟩ = some (.bool (F.ld 4)) := hbp.cell 13); (have p5 : wr.cell? ⟨p, 14, none⟩ = some (.bool (F.ld 5)) := hbp.cell 14); (have p6 : wr.cell? ⟨p, 15, none⟩ = some (.bool (F.ld 6)) := hbp.cell 15); (have p7 : wr.cell? ⟨p, 16, none⟩ = some (.bool (F.ld 7)) := hbp.cell 16)
      have lp := hbp.lt
      (have x0 := hx.cell 0); (have x1 := hx.cell 1); (have x2 := hx.cell 2); (have x3 := hx.cell 3); (have x4 := hx.cell 4); (have x5 := hx.cell 5); (have x6 := hx.cell 6); (have x7 := hx.cell 7); (simp only [List.getElem?_toArray, List.getElem?_cons_succ, List.getElem?_cons_zero] at x0 x1 x2 x3 x4 x5 x6 x7)
      have heq := fun W => bools_eq F.ld (midB F.n F.n) W E hE
      clear hx O5 hbp
      go_wp2_with fail
      refine wp_region_rq (by kernel_rfl) (by kernel_rfl) (by kernel_rfl) ?_
      repeat (first
        | (refine B_skip ?_ ?_; (· rfl); (try simp only [Act.put, List.setIfInBounds_toArray, List.set_cons_zero, List.set_cons_succ]))
        | (refine B_move rfl ?_ ?_; (· rfl); (try simp only [Act.eval, Act.put, Array.getD_eq_getD_getElem?, List.getElem?_toArray, List.getElem?_cons_succ, List.getElem?_cons_zero, Option.getD_some, List.setIfInBounds_toArray, List.set_cons_zero, List.set_cons_succ]))
        | (refine B_plain ?_ ?_; (· rfl); intro K hK; go_big_quiet_op; with_reducible refine hK _ ?_; clear hK K)
        | (refine B_nilck rfl rfl ?_ ?_; (· rfl); (try simp only [Act.put, List.setIfInBounds_toArray, List.set_cons_zero, List.set_cons_succ])))
      refine B_nil ?_ rfl ?_ ?_
      · kernel_rfl
      · rfl
      rintro _ ⟨⟨g2, d2⟩, rfl⟩
      simp only [fin, Act.put, List.setIfInBounds_toArray, List.set_cons_zero, List.set_cons_succ]
      have HBB : Hid (Below w.heap.size w (plus wr g2 d2)) := bplus HO5.out.below _ _
      go_wp2
      go_ret
      exact ⟨rfl, HBB.out⟩
def layE (F : FU) (k : Nat) (a now : Int) : Nat := if F.by_ < now then 19 else if F.ld k = true then 7 else if a ≠ F.st k then 22 else 0
set_option maxRecDepth 100000 in
set_option maxHeartbeats 2000000 in
theorem lay_to (p k : Nat) (F : FU) (w : World) (a now : Int) (hb : HasBlk w p 57 (fcs F)) (h8 : F.n ≤ 8) (hk : k < F.n) (E : Nat) (hE : layE F k a now = E) :
    Calls Try.prog 11 #[ptr p, .int .i64 k, .int .i64 a, .int .i64 now] w fun e w' => e = .returned (.int .i64 E) ∧ w' = if E = 0 then w.setCell ⟨p, 9 + k, none⟩ (.bool true) else w := by
  have T := fhas_to p k F w hb hk
  have c17 : w.cell? ⟨p, 17, none⟩ = some (.int .i64 F.by_) := hb.cell 17
  have ck : w.cell? ⟨p, 9 + k, none⟩ = some (.bool (F.ld k)) := by rw [hb.cell]; exact fcs_ld F k (by omega)
  have cs : w.cell? ⟨p, 1 + k, none⟩ = some (.int .i64 (F.st k)) := by rw [hb.cell]; exact fcs_st F k (by omega)
  have fk := hb.frozen (9 + k)
  have lt := hb.lt
  have hk8 : k < 8 := by omega
  clear hb
  unfold layE at hE
  by_cases h1 : F.by_ < now
  · rw [if_pos h1] at hE
    subst hE
    have hd : decide (F.by_ < now) = true := decide_eq_true h1
    go_enter Try.func11, Try.ntmps11
    go_wp2_with fail
    refine T.mono ?_
    rintro e w2 ⟨rfl, rfl⟩
    go_wp2
    go_ret
    exact ⟨rfl, rfl⟩
  rw [if_neg h1] at hE
  have hd : decide (F.by_ < now) = false := decide_eq_false h1
  cases hl : F.ld k with
  | true =>
    rw [hl] at ck
    rw [if_pos hl] at hE
    subst hE
    go_enter Try.func11, Try.ntmps11
    go_wp2_with fail
    refine T.mono ?_
    rintro e w2 ⟨rfl, rfl⟩
    go_wp2
    go_ret
    exact ⟨rfl, rfl⟩
  | false =>
    rw [hl] at ck
    rw [if_neg (by rw [hl]; simp)] at hE
    by_cases h3 : a = F.st k
    · rw [if_neg (by simpa using h3)] at hE
      subst hE h3
      go_enter Try.func11, Try.ntmps11
      go_wp2_with fail
      refine T.mono ?_
      rintro e w2 ⟨rfl, rfl⟩
      go_wp2
      go_ret
      exact ⟨rfl, rfl⟩
    · rw [if_pos h3] at hE
      subst hE
      have hne : (a == F.st k) = false := by simpa using h3
      go_enter Try.func11, Try.ntmps11
      go_wp2_with fail
      refine T.mono ?_
      rintro e w2 ⟨rfl, rfl⟩
      go_wp2
      go_ret
      exact ⟨rfl, rfl⟩
def backE (F : FU) (k : Nat) : Int × Nat := if F.ld k = false then (0, 9) else if fullB F = true then (0, 10) else (F.st k, 0)
set_option maxRecDepth 100000 in
set_option maxHeartbeats 2000000 in
theorem back_to (p k : Nat) (F : FU) (w : World) (now : Int) (hb : HasBlk w p 57 (fcs F)) (h8 : F.n ≤ 8) (hk : k < F.n) (m : Int) (E : Nat) (hE : backE F k = (m, E)) :
    Calls Try.prog 9 #[ptr p, .int .i64 k, .int .i64 now] w fun e w' => e = .returned (.tuple #[.int .i64 m, .int .i64 E]) ∧ ∃ w1, Below w.heap.size w w1 ∧ w' = if E = 0 then w1.setCell ⟨p, 9 + k, none⟩ (.bool false) else w1 := by
  have T := fhas_to p k F w hb hk
  have HB := Lib.hid hb
  have ck : w.cell? ⟨p, 9 + k, none⟩ = some (.bool (F.ld k)) := by rw [hb.cell]; exact fcs_ld F k (by omega)
  have lt := hb.lt
  have hk8 : k < 8 := by omega
  clear hb
  unfold backE at hE
  cases hl : F.ld k with
  | false =>
    rw [hl] at ck
    rw [if_pos hl] at hE
    cases hE
    go_enter Try.func9, Try.ntmps9
    go_wp2_with fail
    refine T.mono ?_
    rintro e w2 ⟨rfl, rfl⟩
    go_wp2
    refine bodyPost_ret (v := .tuple #[.int .i64 0, .int .i64 9]) (by simp [results, Try.results9, go_sem]) rfl ?_
    first | exact ⟨rfl, _, Below.refl _ _, rfl⟩ | exact ⟨rfl, Below.refl _ _⟩
  | true =>
    rw [hl] at ck
    rw [if_neg (by rw [hl]; simp)] at hE
    obtain ⟨fb, hfb⟩ : ∃ b, fullB F = b := ⟨_, rfl⟩
    have T2 := full_to p F w HB.out h8 fb hfb
    cases fb with
    | true =>
      rw [if_pos hfb] at hE
      cases hE
      go_enter Try.func9, Try.ntmps9
      go_wp2_with fail
      refine T.mono ?_
      rintro e w2 ⟨rfl, rfl⟩
      go_wp2_with fail
      refine T2.mono ?_
      rintro e w3 ⟨rfl, hb3⟩
      go_wp2
      refine bodyPost_ret (v := .tuple #[.int .i64 0, .int .i64 10]) (by simp [results, Try.results9, go_sem]) rfl ?_
      first | exact ⟨rfl, _, hb3, rfl⟩ | exact ⟨rfl, hb3⟩
    | false =>
      rw [if_neg (by rw [hfb]; simp)] at hE
      cases hE
      go_enter Try.func9, Try.ntmps9
      go_wp2_with fail
      refine T.mono ?_
      rintro e w2 ⟨rfl, rfl⟩
      go_wp2_with fail
      refine T2.mono ?_
      rintro e w3 ⟨rfl, hb3⟩
      have hp3 : HasBlk w3 p 57 (fcs F) := (hb3.block p lt).trans HB.out
      have ck3 : w3.cell? ⟨p, 9 + k, none⟩ = some (.bool (F.ld k)) := by rw [hp3.cell]; exact fcs_ld F k hk8
      have cs3 : w3.cell? ⟨p, 1 + k, none⟩ = some (.int .i64 (F.st k)) := by rw [hp3.cell]; exact fcs_st F k hk8
      have fk3 := hp3.frozen (9 + k)
      have lt3 := hp3.lt
      have HB3 := Lib.hid hb3
      have hoff : (⟨p, 1 + k, none⟩ : Addr) ≠ ⟨p, 9 + k, none⟩ := by intro h; simp only [Addr.mk.injEq] at h; omega
      clear hp3 hb3
      go_wp2
      refine bodyPost_ret (v := .tuple #[.int .i64 (F.st k), .int .i64 0]) (by simp [results, Try.results9, go_sem]) rfl ?_
      exact ⟨rfl, _, HB3.out, rfl⟩
def phaseE (F : FU) (now : Int) : Nat := if fullB F = true then 1 else if F.by_ < now then 2 else 0
set_option maxRecDepth 100000 in
set_option maxHeartbeats 2000000 in
theorem phase_to (p : Nat) (F : FU) (w : World) (now : Int) (hb : HasBlk w p 57 (fcs F)) (h8 : F.n ≤ 8) (E : Nat) (hE : phaseE F now = E) :
    Calls Try.prog 15 #[ptr p, .int .i64 now] w fun e w' => e = .returned (.int .i64 E) ∧ Below w.heap.size w w' := by
  obtain ⟨fb, hfb⟩ : ∃ b, fullB F = b := ⟨_, rfl⟩
  have T2 := full_to p F w hb h8 fb hfb
  have HB := Lib.hid hb
  have lt := hb.lt
  clear hb
  unfold phaseE at hE
  go_enter Try.func15, Try.ntmps15
  go_wp2_with fail
  refine T2.mono ?_
  rintro e w3 ⟨rfl, hb3⟩
  have hp3 : HasBlk w3 p 57 (fcs F) := (hb3.block p lt).trans HB.out
  have c17 : w3.cell? ⟨p, 17, none⟩ = some (.int .i64 F.by_) := hp3.cell 17
  have lt3 := hp3.lt
  have HB3 := Lib.hid hb3
  clear hp3 hb3
  cases fb with
  | true =>
    rw [if_pos hfb] at hE
    subst hE
    go_wp2
    go_ret
    exact ⟨rfl, HB3.out⟩
  | false =>
    rw [if_neg (by rw [hfb]; simp)] at hE
    by_cases h1 : F.by_ < now
    · rw [if_pos h1] at hE
      subst hE
      have hd : decide (F.by_ < now) = true := decide_eq_true h1
      go_wp2
      go_ret
      exact ⟨rfl, HB3.out⟩
    · rw [if_neg h1] at hE
      subst hE
      have hd : decide (F.by_ < now) = false := decide_eq_false h1
      go_wp2
      go_ret
      exact ⟨rfl, HB3.out⟩
def givE (F : FU) (k : Nat) : Int := if F.ld k = true then F.st k else 0
set_option maxRecDepth 100000 in
set_option maxHeartbeats 2000000 in
theorem given_to (p k : Nat) (F : FU) (w : World) (hb : HasBlk w p 57 (fcs F)) (h8 : F.n ≤ 8) (hk : k < F.n) (m : Int) (hm : givE F k = m) :
    Calls Try.prog 18 #[ptr p, .int .i64 k] w fun e w' => e = .returned (.int .i64 m) ∧ w' = w := by
  have T := fhas_to p k F w hb hk
  have ck : w.cell? ⟨p, 9 + k, none⟩ = some (.bool (F.ld k)) := by rw [hb.cell]; exact fcs_ld F k (by omega)
  have cs : w.cell? ⟨p, 1 + k, none⟩ = some (.int .i64 (F.st k)) := by rw [hb.cell]; exact fcs_st F k (by omega)
  have lt := hb.lt
  have hk8 : k < 8 := by omega
  clear hb
  unfold givE at hm
  cases hl : F.ld k with
  | true =>
    rw [hl] at ck
    rw [if_pos hl] at hm
    subst hm
    go_enter Try.func18, Try.ntmps18
    go_wp2_with fail
    refine T.mono ?_
    rintro e w2 ⟨rfl, rfl⟩
    go_wp2
    go_ret
    exact ⟨rfl, rfl⟩
  | false =>
    rw [hl] at ck
    rw [if_neg (by rw [hl]; simp)] at hm
    subst hm
    go_enter Try.func18, Try.ntmps18
    go_wp2_with fail
    refine T.mono ?_
    rintro e w2 ⟨rfl, rfl⟩
    go_wp2
    go_ret
    exact ⟨rfl, rfl⟩
def heldS (F : FU) (k : Nat) : Int := ((List.range k).map (givE F)).sum
theorem heldS_succ (F : FU) (k : Nat) : heldS F (k + 1) = heldS F k + givE F k := by
  unfold heldS
  rw [List.range_succ, List.map_append, List.sum_append]
  simp
set_option maxRecDepth 100000 in
set_option maxHeartbeats 2000000 in
theorem held_to (p : Nat) (F : FU) (w : World) (hb : HasBlk w p 57 (fcs F)) (h8 : F.n ≤ 8) (hs : ∀ k, k < F.n → 0 ≤ givE F k ∧ givE F k ≤ 1000) :
    Calls Try.prog 14 #[ptr p] w fun e w' => e = .returned (.int .i64 (heldS F F.n)) ∧ w' = w := by
  have HB := Lib.hid hb
  have c0 : w.cell? ⟨p, 0, none⟩ = some (.int .i64 F.n) := hb.cell 0
  have lt := hb.lt
  have HS := Lib.hid hs
  clear hb hs
  go_enter Try.func14, Try.ntmps14
  go_wp2_with fail
  go_loopw [3, 11] (fun vs vi wr => ∃ (i : Nat), vi = .int .i64 i ∧ i ≤ F.n ∧ vs = .int .i64 (heldS F i) ∧ 0 ≤ heldS F i ∧ heldS F i ≤ 1000 * i ∧ wr = w) (fun _ vi _ => F.n - (intOf vi).toNat)
  case atStart => exact ⟨0, rfl, by omega, by simp [heldS], by simp [heldS], by simp [heldS], rfl⟩
  case round =>
    obtain ⟨i, rfl, hi, rfl, h0, h1, rfl⟩ := hrel
    by_cases hlt : i < F.n
    · have hsi := HS.out i hlt
      have hsu := heldS_succ F i
      obtain ⟨gi, hgi⟩ : ∃ g, givE F i = g := ⟨_, rfl⟩
      have T := given_to p i F wr HB.out h8 hlt gi hgi
      rw [hgi] at hsi hsu
      obtain ⟨h, hh⟩ : ∃ h, heldS F i = h := ⟨_, rfl⟩
      have HSU := Lib.hid hsu
      rw [hh] at h0 h1 HSU ⊢
      clear hsu hh hgi
      go_wp2_with fail
      refine T.mono ?_
      rintro e w2 ⟨rfl, rfl⟩
      go_wp2
      have e1 := HSU.out
      exact ⟨⟨i + 1, by simp, by omega, by rw [e1], by omega, by omega, by simp⟩, by simp [intOf]; omega⟩
    · obtain rfl : i = F.n := by omega
      go_wp2
      go_ret
      exact ⟨rfl, rfl⟩
theorem fcs_one (F : FU) : ∀ u ∈ (fcs F).toList, u.oneCell' = true := by
  intro u hu
  simp [fcs] at hu
  rcases hu with rfl | rfl | rfl | rfl | rfl | rfl | rfl | rfl | rfl | rfl | rfl | rfl | rfl | rfl | rfl | rfl | rfl | rfl <;> rfl
set_option maxRecDepth 100000 in
set_option maxHeartbeats 2000000 in
theorem fclone_to (p : Nat) (F : FU) (w w0 : World) (X : List Blk) (KK : List (Nat × Obj)) (O : Omw w w0 X KK) (hx : (⟨p, 57, fcs F⟩ : Blk) ∈ X) :
    Calls Try.prog 16 #[ptr p] w fun e w' => ∃ q, e = .returned (ptr q) ∧ Omw w' w0 (⟨q, 57, fcs F⟩ :: X) KK := by
  have hb := O.blk hx
  have HB := Lib.hid hb
  have lt := hb.lt
  have HO := Lib.hid (O.key #[.int .i64 0, .int .i64 0, .int .i64 0, .int .i64 0, .int .i64 0, .int .i64 0, .int .i64 0, .int .i64 0, .int .i64 0, .bool false, .bool false, .bool false, .bool false, .bool false, .bool false, .bool false, .bool false, .int .i64 0] 57 w.heap.size rfl)
  clear hb O
  go_enter Try.func16, Try.ntmps16
  go_wp2_with (first | (refine wpList_load_want (by rfl) 57 (.tmp 7) (by rfl) p (by rfl) 57 (fcs F) _ _ HB.out Try.underlying57 rfl (by kernel_rfl) ?_) | (refine HO.out.storeL rfl 57 (.tmp 3) (.tmp 8) rfl (by rfl) (fcs F) (by rfl) (by kernel_rfl) (by rfl) (fcs_one F) ?_; intro w3 O3; (have HO3 := Lib.hid O3); clear O3))
  go_ret
  exact ⟨_, rfl, HO3.out⟩
end

end Go.Proofs.Yteopbfehfipcmaa
