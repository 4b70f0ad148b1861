/- The law TowerNewest: its walk. -/
import Derived.Test.YtghaiplhakeahaaTowerSees
namespace Go.Proofs.Ytghaiplhakeahaa
set_option linter.unusedSimpArgs false
set_option linter.unusedVariables false
open Go.RowKit Go.WideMaps Go.ChangeMaps Go.Maps

/-- An appointment whose box a function answered. -/
def ApA (base : Nat) (h : BitVec 64) (n : Int) (l : List UInt8) : Pred := fun v W => ∃ u, v = .agg #[.int .u8 (by8 h 0), .int .u8 (by8 h 1), .int .u8 (by8 h 2), .int .u8 (by8 h 3), .int .u8 (by8 h 4), .int .u8 (by8 h 5), .int .u8 (by8 h 6), .int .u8 (by8 h 7), .int .i64 n, u] ∧ Ans base l u W
theorem stays_apA (base : Nat) (h : BitVec 64) (n : Int) (l : List UInt8) : Stays (ApA base h n l) := fun v w w' hx ⟨u, h1, h2⟩ => ⟨u, h1, stays_ans _ _ u w w' hx h2⟩
theorem HasBlk.mk2 {w : World} {b : Nat} {t : TypeId} {cs : Array Value} (h : w.heap[b]? = some (.cells cs t (0, 0))) : HasBlk w b t cs := h
theorem HasBlk.cs_ne {w : World} {b c : Nat} {t s : TypeId} {cs ds : Array Value} (h : HasBlk w b t cs) (k : HasBlk w c s ds) (hne : cs ≠ ds) : b ≠ c := by
  rintro rfl
  unfold HasBlk at h k
  rw [h] at k
  cases k
  exact hne rfl
theorem Tw.storeAt {P : Program} {o : Oper} {a : Act} {Q : Exit → Act → World → Prop} {K' : Act → World → Prop} {w w0 : World} {C X : List Blk} {K : List (Nat × Obj)} {p : Nat} {T : TWS} {b : Nat} {t : TypeId} {cs : Array Value} (h : Tw w w0 (⟨b, t, cs⟩ :: C) X K p T) (ty : TypeId) (x y : Operand) (ho : o.op = .store ty x y)
    (hx : a.eval x = .pointer (some ⟨b, 0, none⟩)) (vs : Array Value) (hy : a.eval y = .agg vs) (hi : (P.info? ty).map (·.size) = some vs.size) (hs : vs.size = cs.size) (h1 : ∀ v ∈ vs.toList, v.oneCell' = true)
    (k : ∀ w', Tw w' w0 (⟨b, t, vs⟩ :: C) X K p T → K' (a.put o.dst undef) w') : o.wp P a w K' Q := by
  obtain ⟨B, kk, O, D⟩ := h
  have O1 : Omw w w0 (⟨b, t, cs⟩ :: (B ++ (C ++ X))) (kk :: K) := O.perm (perm_cnt fun x => by simp only [cnt_append, cnt_cons, cnt_nil] <;> omega)
  refine O1.storeAt ty x y ho 0 hx vs hy hi (by omega) h1 fun w' O' => k w' ⟨B, kk, ?_, D⟩
  rw [writeAt_all _ _ (by simpa using hs)] at O'
  have O2 : Omw w' w0 (⟨b, t, vs⟩ :: (B ++ (C ++ X))) (kk :: K) := by simpa using O'
  exact O2.perm (perm_cnt fun x => by simp only [cnt_append, cnt_cons, cnt_nil] <;> omega)
/-- The tower of one nonce. -/
noncomputable def oneT (x : BitVec 64) (best : Int) (l : List UInt8) : TWS := ⟨1, [⟨thintF x, best, tboxF x l⟩]⟩
theorem box_len (x : BitVec 64) (l : List UInt8) : (tboxF x l).length = 8 + l.length := by unfold tboxF; rw [sealF_len]
theorem oneT_ok (x : BitVec 64) (best : Int) (l : List UInt8) (hl : l.length ≤ 32768) : TOk (oneT x best l) := ⟨by simp [oneT, Dis], by simp [oneT], by simp [oneT], fun a ha => by simp [oneT] at ha; subst ha; rw [box_len]; omega⟩
theorem take_at (T : TWS) (a : AP) (i : Nat) (hn : isNum a.n = true) (h8 : 8 ≤ a.l.length) (hl : a.l.length ≤ 32776) (hi : idx T.all a.h = some i) (nn : Int) (hnn : (T.all.getD i default).n = nn) :
    takeE T a = (if a.n ≤ nn then 18 else 0) ∧ takeT T a = (if a.n ≤ nn then T else { T with all := T.all.set i a }) := by
  have hE : takeE T a = if a.n ≤ nn then 18 else 0 := by
    unfold takeE
    rw [if_neg (by simp [hn]), if_neg (by omega), if_neg (by omega)]
    simp only [hi, hnn]
  refine ⟨hE, ?_⟩
  unfold takeT
  rw [hE]
  by_cases h : a.n ≤ nn
  · rw [if_pos h, if_pos h, if_neg (by omega)]
  · rw [if_neg h, if_neg h, if_pos rfl]
    simp only [hi]
theorem one_take (x : BitVec 64) (best m : Int) (l l' : List UInt8) (hl : l'.length ≤ 32768) (hm : isNum m = true) : takeE (oneT x best l) ⟨thintF x, m, tboxF x l'⟩ = (if m ≤ best then 18 else 0) ∧ takeT (oneT x best l) ⟨thintF x, m, tboxF x l'⟩ = (if m ≤ best then oneT x best l else oneT x m l') := by
  have hb := box_len x l'
  unfold oneT
  generalize tboxF x l' = y' at hb ⊢
  generalize tboxF x l = y
  generalize thintF x = h
  exact take_at ⟨1, [⟨h, best, y⟩]⟩ ⟨h, m, y'⟩ 0 hm (by show 8 ≤ y'.length; omega) (by show y'.length ≤ 32776; omega) (idx_one _ _ rfl) best rfl
theorem none_take (x : BitVec 64) (m : Int) (l' : List UInt8) (hl : l'.length ≤ 32768) (hm : isNum m = true) : takeE ⟨1, []⟩ ⟨thintF x, m, tboxF x l'⟩ = 0 ∧ takeT ⟨1, []⟩ ⟨thintF x, m, tboxF x l'⟩ = oneT x m l' := by
  have h := takeE_first 1 (by omega) ⟨thintF x, m, tboxF x l'⟩ hm (by show 8 ≤ (tboxF x l').length; rw [box_len]; omega) (by show (tboxF x l').length ≤ 32776; rw [box_len]; omega)
  exact ⟨h, takeT_first 1 _ h⟩
theorem bsl_one {w : World} {b : Nat} {c : UInt8} (h : HasBlk w b 5 #[.int .u8 (c.toNat : Int)]) : BSl w (.slice (some ⟨b, 0, none⟩) 1 1) [c] := by
  refine ⟨_, 1, rfl, ⟨Nat.le_refl _, fun h => by cases h⟩, .inr ⟨b, 0, rfl, h.lt, fun i hi => ?_⟩⟩
  rw [Nat.zero_add, h.cell]
  match i, hi with
  | 0, _ => rfl
/-- What is told of the rounds. -/
def NewRel (x : BitVec 64) (i : Nat) (best at_ : Int) (T : TWS) : Prop := (at_ = -1 ∧ best = -1 ∧ T = ⟨1, []⟩) ∨ ∃ j : Nat, at_ = (j : Int) ∧ j < i ∧ isNum best = true ∧ T = oneT x best [UInt8.ofNat j]
theorem Ans.parts {base : Nat} {l : List UInt8} {u : Value} {W : World} (h : Ans base l u W) : ∃ S : List Blk, (∀ w1, Msg w1 S u l) ∧ S.Pairwise (fun x y => x.no ≠ y.no) ∧ (∀ x ∈ S, base ≤ x.no ∧ HasBlk W x.no x.ty x.cs) ∧ ∀ z ∈ S, ∀ j, j < l.length → ∃ c, z.cs[j]? = some (.int .u8 c) := by
  obtain ⟨ao, cap, S, rfl, ⟨h1, h2⟩, h3, h4⟩ := h
  refine ⟨S, fun w1 => ⟨bcs_len l, ao, cap, rfl, ⟨h1, fun h => ⟨?_, h2 h⟩⟩, ?_⟩, h3.apart, h4, fun z hz j hj => ?_⟩
  · have := h2 h; omega
  · rcases h3 with ⟨rfl, -⟩ | ⟨r, t, cur, rfl, rfl, h5⟩
    · exact .inl rfl
    · refine .inr ⟨r, 0, rfl, .inr ⟨t, cur, by simp, fun j u hj => ?_⟩⟩
      have hlt := (List.getElem?_eq_some_iff.1 hj).1
      rw [bcs_len] at hlt
      rw [bcs_get l j hlt] at hj
      rw [Nat.zero_add, h5 j hlt, hj]
  · rcases h3 with ⟨-, rfl⟩ | ⟨r, t, cur, rfl, rfl, h5⟩
    · simp at hz
    · obtain rfl := List.mem_singleton.1 hz
      exact ⟨_, h5 j hj⟩
theorem rel_take {x : BitVec 64} {i : Nat} {best at_ : Int} {T : TWS} (h : NewRel x i best at_ T) (m : Int) (hm : isNum m = true) : TOk T ∧ (best < m → takeE T ⟨thintF x, m, tboxF x [UInt8.ofNat i]⟩ = 0 ∧ takeT T ⟨thintF x, m, tboxF x [UInt8.ofNat i]⟩ = oneT x m [UInt8.ofNat i]) ∧ (¬ best < m → takeE T ⟨thintF x, m, tboxF x [UInt8.ofNat i]⟩ = 18 ∧ takeT T ⟨thintF x, m, tboxF x [UInt8.ofNat i]⟩ = T) := by
  have hb := isNum_bd hm
  rcases h with ⟨rfl, rfl, rfl⟩ | ⟨j, rfl, hj, hbest, rfl⟩
  · exact ⟨TOk.new 1 (by omega), fun _ => none_take x m _ (by simp) hm, fun h => by omega⟩
  · have h1 := one_take x best m [UInt8.ofNat j] [UInt8.ofNat i] (by simp) hm
    refine ⟨oneT_ok x best _ (by simp), fun h => ?_, fun h => ?_⟩
    · rw [if_neg (by omega), if_neg (by omega)] at h1; exact h1
    · rw [if_pos (by omega), if_pos (by omega)] at h1; exact h1
theorem NewRel.step {x : BitVec 64} {i : Nat} {best at_ : Int} {T : TWS} (h : NewRel x i best at_ T) : NewRel x (i + 1) best at_ T := by
  rcases h with h | ⟨j, h1, h2, h3⟩
  · exact .inl h
  · exact .inr ⟨j, h1, by omega, h3⟩
theorem upd_self (L : Nat → Bool) (i : Nat) : upd L i i = true := by simp [upd]
theorem upd_ne (L : Nat → Bool) {i j : Nat} (h : j ≠ i) : upd L i j = L j := by simp [upd, h]
set_option maxRecDepth 100000 in
set_option maxHeartbeats 8000000 in
theorem towerNewest_any (dx : BitVec 64) (v : Value) (n : Nat) (f : Nat → Int) (hn : n ≤ maxLen) (w : World) (hv : VSl w v n (fun i => .int .i64 (f i))) :
    Calls Try.prog 5 #[.agg #[.int .u8 (by8 dx 0), .int .u8 (by8 dx 1), .int .u8 (by8 dx 2), .int .u8 (by8 dx 3), .int .u8 (by8 dx 4), .int .u8 (by8 dx 5), .int .u8 (by8 dx 6), .int .u8 (by8 dx 7)], v] w fun e w' => e = .returned (.bool true) ∧ Below w.heap.size w w' := by
  have hml : n ≤ 9223372036854775807 := by unfold maxLen at hn; omega
  obtain ⟨av, cv, rfl, hcv, hrow⟩ := hv
  have HR := Lib.hid hrow
  have hcn := hcv.1
  clear hn hrow hcv
  have HO := Lib.hid ((Ow.start w).key #[.int .u8 (by8 dx 0), .int .u8 (by8 dx 1), .int .u8 (by8 dx 2), .int .u8 (by8 dx 3), .int .u8 (by8 dx 4), .int .u8 (by8 dx 5), .int .u8 (by8 dx 6), .int .u8 (by8 dx 7)] 22 w.heap.size rfl)
  have HOm : Hid (Omw _ w _ []) := ⟨HO.out, by simp, by simp, by simp, .nil⟩
  by_cases h20 : 20 < n
  · have hd : decide ((20 : Int) < (n : Int)) = true := decide_eq_true (by omega)
    go_enter Try.func5, Try.ntmps5
    go_wp2_with fail
    refine (tnew_to 1 (by omega) (by omega) _ w _ [] HOm.out).mono ?_
    rintro e w2 ⟨p, B, k, rfl, O2, -⟩
    have HB2 := Lib.hid O2.below
    clear O2
    go_wp2_with fail
    refine (told51_to _).mono ?_
    rintro e w3 ⟨rfl, hb3⟩
    have HB3 := Lib.hid (HB2.out.trans (hb3.mono HB2.out.size))
    clear hb3 HB2
    go_wp2
    go_ret
    exact ⟨rfl, HB3.out⟩
  have hd : decide ((20 : Int) < (n : Int)) = false := decide_eq_false (by omega)
  go_enter Try.func5, Try.ntmps5
  go_wp2_with fail
  refine (tnew_to 1 (by omega) (by omega) _ w _ [] HOm.out).mono ?_
  rintro e w2 ⟨p, B, k, rfl, O2, hP⟩
  have H2 : Hid (Tw w2 w [⟨w.heap.size, 22, #[.int .u8 (by8 dx 0), .int .u8 (by8 dx 1), .int .u8 (by8 dx 2), .int .u8 (by8 dx 3), .int .u8 (by8 dx 4), .int .u8 (by8 dx 5), .int .u8 (by8 dx 6), .int .u8 (by8 dx 7)]⟩] [] [] p ⟨1, []⟩) := ⟨B, k, O2, hP []⟩
  clear O2 hP HOm HO
  go_wp2_with fail
  obtain ⟨bx, hbx⟩ : ∃ b, b = w.heap.size := ⟨_, rfl⟩
  simp only [← hbx] at H2 ⊢
  clear hbx
  go_loopw [7, 8, 9] (fun v7 v8 vi wr => ∃ (i : Nat) (best at_ : Int) (T : TWS) (X : List Blk), v7 = .int .i64 best ∧ v8 = .int .i64 at_ ∧ vi = .int .i64 i ∧ i ≤ n ∧ NewRel dx i best at_ T ∧ Tw wr w [⟨bx, 22, #[.int .u8 (by8 dx 0), .int .u8 (by8 dx 1), .int .u8 (by8 dx 2), .int .u8 (by8 dx 3), .int .u8 (by8 dx 4), .int .u8 (by8 dx 5), .int .u8 (by8 dx 6), .int .u8 (by8 dx 7)]⟩] X [] p T) (fun _ _ vi _ => n - (intOf vi).toNat)
  case atStart => exact ⟨0, -1, -1, ⟨1, []⟩, [], rfl, rfl, rfl, by omega, .inl ⟨rfl, rfl, rfl⟩, H2.out⟩
  case round =>
    obtain ⟨i, best, at_, T, X, rfl, rfl, rfl, hi, hrel, hT⟩ := hrel
    have HREL := Lib.hid hrel
    have HT := Lib.hid hT
    by_cases hlt : i < n
    · obtain ⟨r, o, rfl, hr, hcell⟩ : ∃ r o, av = some ⟨r, o, none⟩ ∧ r < w.heap.size ∧ w.cell? ⟨r, o + i, none⟩ = some (.int .i64 (f i)) := by
        rcases HR.out with h | ⟨r, o, h1, h2, h3⟩
        · omega
        · exact ⟨r, o, h1, h2, h3 i hlt⟩
      have hold : ∀ {w' : World} {C X : List Blk} {T : TWS}, Tw w' w C X [] p T → w'.cell? ⟨r, o + i, none⟩ = some (.int .i64 (f i)) := fun h => by
        rw [← hcell]
        exact World.cell?_of_block (a := ⟨r, o + i, none⟩) (h.below.block _ hr)
      have HOLD : Hid (∀ (w' : World) (C X : List Blk) (T : TWS), Tw w' w C X [] p T → w'.cell? ⟨r, o + i, none⟩ = some (.int .i64 (f i))) := fun w' C X T h => hold h
      have hc := hold hT
      have hri : r < wr.heap.size := Nat.lt_of_lt_of_le hr hT.below.size
      obtain ⟨m, hm⟩ : ∃ m, f i = m := ⟨_, rfl⟩
      rw [hm] at hc HOLD
      have hTq := hT
      (have hqx := hTq.has (b := bx) (t := 22) (cs := #[.int .u8 (by8 dx 0), .int .u8 (by8 dx 1), .int .u8 (by8 dx 2), .int .u8 (by8 dx 3), .int .u8 (by8 dx 4), .int .u8 (by8 dx 5), .int .u8 (by8 dx 6), .int .u8 (by8 dx 7)]) (by simp)); (have x0 := hqx.cell 0); (have x1 := hqx.cell 1); (have x2 := hqx.cell 2); (have x3 := hqx.cell 3); (have x4 := hqx.cell 4); (have x5 := hqx.cell 5); (have x6 := hqx.cell 6); (have x7 := hqx.cell 7); (have lx := hqx.lt); (simp only [List.getElem?_toArray, List.getElem?_cons_succ, List.getElem?_cons_zero] at x0 x1 x2 x3 x4 x5 x6 x7); clear hqx
      clear hTq hT hrel hm
      have hwr : IntKind.u8.wrap (i : Int) = (i : Int) := by simp [IntKind.wrap, IntKind.bits, IntKind.signed]; omega
      obtain ⟨h, HH⟩ : ∃ h, Hid (thintF dx = h) := ⟨_, rfl⟩
      obtain ⟨y, HY⟩ : ∃ y, Hid (tboxF dx [UInt8.ofNat i] = y) := ⟨_, rfl⟩
      by_cases hnum : isNum m = true
      · have MK : Hid (∀ W b, HasBlk W b 5 #[.int .u8 (i : Int)] → Calls Try.prog 16 #[.agg #[.int .u8 (by8 dx 0), .int .u8 (by8 dx 1), .int .u8 (by8 dx 2), .int .u8 (by8 dx 3), .int .u8 (by8 dx 4), .int .u8 (by8 dx 5), .int .u8 (by8 dx 6), .int .u8 (by8 dx 7)], .int .i64 m, .slice (some ⟨b, 0, none⟩) 1 1] W fun e w' => ∃ au cu, e = .returned (.tuple #[.agg #[.int .u8 (by8 h 0), .int .u8 (by8 h 1), .int .u8 (by8 h 2), .int .u8 (by8 h 3), .int .u8 (by8 h 4), .int .u8 (by8 h 5), .int .u8 (by8 h 6), .int .u8 (by8 h 7), .int .i64 m, .slice au y.length cu], .int .i64 0]) ∧ Below W.heap.size W w' ∧ ∃ S : List Blk, Msg w S (.slice au y.length cu) y ∧ S.Pairwise (fun x y => x.no ≠ y.no) ∧ ∀ z ∈ S, W.heap.size ≤ z.no ∧ HasBlk w' z.no z.ty z.cs) := fun W b hb => by
          have hbb : HasBlk W b 5 #[.int .u8 ((UInt8.ofNat i).toNat : Int)] := by
            have : ((UInt8.ofNat i).toNat : Int) = (i : Int) := by simp; omega
            rw [this]; exact hb
          refine (make_to dx m _ [UInt8.ofNat i] hnum (by simp) h HH.out y HY.out _ (bsl_one hbb)).mono ?_
          rintro e w' ⟨u, h1, h2, h3⟩
          obtain ⟨S, s1, s2, s3, -⟩ := h3.parts
          obtain ⟨au, cu, rfl⟩ := (s1 w).slice
          exact ⟨au, cu, h1, h2, S, s1 w, s2, s3⟩
        have HWR := Lib.hid hwr
        clear hwr hc hri hcell hold
        clear x0 x1 x2 x3 x4 x5 x6 x7 lx
        go_wp2_with fail
        refine wp_region_o2 [43, 44, 45, 46, 47, 48, 49, 50, 51, 42, 52, 53, 10, 11] (fun L (x : (Option Addr × Nat) × Nat × Nat) => [(L 0, 43, .agg #[.int .u8 (by8 dx 0), .int .u8 (by8 dx 1), .int .u8 (by8 dx 2), .int .u8 (by8 dx 3), .int .u8 (by8 dx 4), .int .u8 (by8 dx 5), .int .u8 (by8 dx 6), .int .u8 (by8 dx 7)]), (L 1, 44, .slice (some ⟨r, o, none⟩) n cv), (L 2, 45, .int .i64 i), (L 3, 46, .pointer (some ⟨r, o + i, none⟩)), (L 4, 47, .int .i64 m), (L 5, 48, .int .i64 i), (L 6, 49, .int .u8 i), (L 7, 50, bif L 7 then .slice (some ⟨x.2.1, 0, none⟩) 1 1 else undef), (L 8, 51, bif L 8 then .tuple #[.agg #[.int .u8 (by8 h 0), .int .u8 (by8 h 1), .int .u8 (by8 h 2), .int .u8 (by8 h 3), .int .u8 (by8 h 4), .int .u8 (by8 h 5), .int .u8 (by8 h 6), .int .u8 (by8 h 7), .int .i64 m, .slice x.1.1 y.length x.1.2], .int .i64 0] else undef), (L 9, 42, bif L 9 then .tuple #[.agg #[.int .u8 (by8 h 0), .int .u8 (by8 h 1), .int .u8 (by8 h 2), .int .u8 (by8 h 3), .int .u8 (by8 h 4), .int .u8 (by8 h 5), .int .u8 (by8 h 6), .int .u8 (by8 h 7), .int .i64 m, .slice x.1.1 y.length x.1.2], .int .i64 0] else undef), (L 10, 52, bif L 10 then .agg #[.int .u8 (by8 h 0), .int .u8 (by8 h 1), .int .u8 (by8 h 2), .int .u8 (by8 h 3), .int .u8 (by8 h 4), .int .u8 (by8 h 5), .int .u8 (by8 h 6), .int .u8 (by8 h 7), .int .i64 m, .slice x.1.1 y.length x.1.2] else undef), (L 11, 53, .int .i64 0), (L 12, 10, bif L 12 then tptr x.2.2 else undef), (L 14, 11, .int .i64 0)])
          (fun L x W => ∃ S : List Blk, (L 8 = true → Msg w S (.slice x.1.1 y.length x.1.2) y) ∧ Tw W w ((bif L 12 then [⟨x.2.2, 29, bif L 13 then #[.int .u8 (by8 h 0), .int .u8 (by8 h 1), .int .u8 (by8 h 2), .int .u8 (by8 h 3), .int .u8 (by8 h 4), .int .u8 (by8 h 5), .int .u8 (by8 h 6), .int .u8 (by8 h 7), .int .i64 m, .slice x.1.1 y.length x.1.2] else #[.int .u8 0, .int .u8 0, .int .u8 0, .int .u8 0, .int .u8 0, .int .u8 0, .int .u8 0, .int .u8 0, .int .i64 0, .slice none 0 0]⟩] else []) ++ ((bif L 7 then [⟨x.2.1, 5, #[.int .u8 i]⟩] else []) ++ (S ++ [⟨bx, 22, #[.int .u8 (by8 dx 0), .int .u8 (by8 dx 1), .int .u8 (by8 dx 2), .int .u8 (by8 dx 3), .int .u8 (by8 dx 4), .int .u8 (by8 dx 5), .int .u8 (by8 dx 6), .int .u8 (by8 dx 7)]⟩]))) X [] p T) ((none, 0), 0, 0) (by kernel_rfl) (by kernel_rfl) 113 (by rfl) (fun _ _ => rfl) (by kernel_rfl) (by kernel_rfl) (by kernel_rfl) (by rfl) ⟨[], fun hx => (by simp at hx), HT.out.drew⟩ ?_ ⟨?_, ?_, ?_, ?_, ?_, ?_, ?_, ?_, ?_, ?_, ?_, ?_, ?_, ?_, ?_, trivial⟩
        rotate_left
        · (intro L x W hW hC hL hd B K hB hK; (try simp [depsB, Region.binds] at hd); (try simp only [Nat.reduceAdd] at hK hL); (have e2 := hB.out 2); (simp (decide := true) only [look, if_true, if_false, hd, cond_true, cond_false, Array.getD_eq_getD_getElem?, List.getElem?_toArray, List.getElem?_cons_succ, List.getElem?_cons_zero, Option.getD_some] at e2); (have hW0 := hW); (obtain ⟨S, hS, hN⟩ := hW0); (have hq := hN.has (b := bx) (t := 22) (cs := #[.int .u8 (by8 dx 0), .int .u8 (by8 dx 1), .int .u8 (by8 dx 2), .int .u8 (by8 dx 3), .int .u8 (by8 dx 4), .int .u8 (by8 dx 5), .int .u8 (by8 dx 6), .int .u8 (by8 dx 7)]) (by simp)); (have q0 := hq.cell 0); (have q1 := hq.cell 1); (have q2 := hq.cell 2); (have q3 := hq.cell 3); (have q4 := hq.cell 4); (have q5 := hq.cell 5); (have q6 := hq.cell 6); (have q7 := hq.cell 7); (have lq := hq.lt); (simp only [List.getElem?_toArray, List.getElem?_cons_succ, List.getElem?_cons_zero] at q0 q1 q2 q3 q4 q5 q6 q7); clear hq; clear hS hN; go_simp; exact hK.out (.agg #[.int .u8 (by8 dx 0), .int .u8 (by8 dx 1), .int .u8 (by8 dx 2), .int .u8 (by8 dx 3), .int .u8 (by8 dx 4), .int .u8 (by8 dx 5), .int .u8 (by8 dx 6), .int .u8 (by8 dx 7)]) x W (by simp (decide := true) [putO, setF, upd]) hW)
        · (intro L x W hW hC hL hd B K hB hK; (try simp [depsB, Region.binds] at hd); (try simp only [Nat.reduceAdd] at hK hL); (have e1 := hB.out 1); (simp (decide := true) only [look, if_true, if_false, hd, cond_true, cond_false, Array.getD_eq_getD_getElem?, List.getElem?_toArray, List.getElem?_cons_succ, List.getElem?_cons_zero, Option.getD_some] at e1); go_simp; exact hK.out (.slice (some ⟨r, o, none⟩) n cv) x W (by simp (decide := true) [putO, setF, upd]) hW)
        · (intro L x W hW hC hL hd B K hB hK; (try simp [depsB, Region.binds] at hd); (try simp only [Nat.reduceAdd] at hK hL); (have e9 := hB.out 9); (simp (decide := true) only [look, if_true, if_false, hd, cond_true, cond_false, Array.getD_eq_getD_getElem?, List.getElem?_toArray, List.getElem?_cons_succ, List.getElem?_cons_zero, Option.getD_some] at e9); go_simp; exact hK.out (.int .i64 i) x W (by simp (decide := true) [putO, setF, upd]) hW)
        · (intro L x W hW hC hL hd B K hB hK; (try simp [depsB, Region.binds] at hd); (try simp only [Nat.reduceAdd] at hK hL); (have e44 := hB.out 44); (simp (decide := true) only [look, if_true, if_false, hd, cond_true, cond_false, Array.getD_eq_getD_getElem?, List.getElem?_toArray, List.getElem?_cons_succ, List.getElem?_cons_zero, Option.getD_some] at e44); (have e45 := hB.out 45); (simp (decide := true) only [look, if_true, if_false, hd, cond_true, cond_false, Array.getD_eq_getD_getElem?, List.getElem?_toArray, List.getElem?_cons_succ, List.getElem?_cons_zero, Option.getD_some] at e45); go_simp; exact hK.out (.pointer (some ⟨r, o + i, none⟩)) x W (by simp (decide := true) [putO, setF, upd]) hW)
        · (intro L x W hW hC hL hd B K hB hK; (try simp [depsB, Region.binds] at hd); (try simp only [Nat.reduceAdd] at hK hL); (have e46 := hB.out 46); (simp (decide := true) only [look, if_true, if_false, hd, cond_true, cond_false, Array.getD_eq_getD_getElem?, List.getElem?_toArray, List.getElem?_cons_succ, List.getElem?_cons_zero, Option.getD_some] at e46); (have hW0 := hW); (obtain ⟨S, hS, hN⟩ := hW0); (have hc := HOLD.out _ _ _ _ hN); (have hri : r < W.heap.size := Nat.lt_of_lt_of_le hr hN.below.size); clear hS hN; go_simp; exact hK.out (.int .i64 m) x W (by simp (decide := true) [putO, setF, upd]) hW)
        · (intro L x W hW hC hL hd B K hB hK; (try simp [depsB, Region.binds] at hd); (try simp only [Nat.reduceAdd] at hK hL); (have e9 := hB.out 9); (simp (decide := true) only [look, if_true, if_false, hd, cond_true, cond_false, Array.getD_eq_getD_getElem?, List.getElem?_toArray, List.getElem?_cons_succ, List.getElem?_cons_zero, Option.getD_some] at e9); go_simp; exact hK.out (.int .i64 i) x W (by simp (decide := true) [putO, setF, upd]) hW)
        · (intro L x W hW hC hL hd B K hB hK; (try simp [depsB, Region.binds] at hd); (try simp only [Nat.reduceAdd] at hK hL); (have e48 := hB.out 48); (simp (decide := true) only [look, if_true, if_false, hd, cond_true, cond_false, Array.getD_eq_getD_getElem?, List.getElem?_toArray, List.getElem?_cons_succ, List.getElem?_cons_zero, Option.getD_some] at e48); (have hwr := HWR.out); go_simp; exact hK.out (.int .u8 i) x W (by simp (decide := true) [putO, setF, upd]) hW)
        · intro L x W hW hC hL hd B K hB hK; (try simp [depsB, Region.binds] at hd); (try simp only [Nat.reduceAdd] at hK hL)
          (have e49 := hB.out 49); (simp (decide := true) only [look, if_true, if_false, hd, cond_true, cond_false, Array.getD_eq_getD_getElem?, List.getElem?_toArray, List.getElem?_cons_succ, List.getElem?_cons_zero, Option.getD_some] at e49)
          have h8 : L 8 = false := by cases hl : L 8 with | false => rfl | true => have hx := hC 8 _ rfl hl; simp [depsB, Region.binds, hL] at hx
          have h9 : L 9 = false := by cases hl : L 9 with | false => rfl | true => have hx := hC 9 _ rfl hl; simp [depsB, Region.binds, h8] at hx
          have h10 : L 10 = false := by cases hl : L 10 with | false => rfl | true => have hx := hC 10 _ rfl hl; simp [depsB, Region.binds, h9] at hx
          have h13 : L 13 = false := by cases hl : L 13 with | false => rfl | true => have hx := hC 13 _ rfl hl; simp [depsB, Region.binds, hL] at hx
          obtain ⟨S, hS, hN⟩ := hW
          refine wp_ran (run_buildSlice_one elt_byte rfl (.int .u8 i) (by simp [Act.eval, e49]) rfl (by omega) W) ?_
          have hN2 := hN.park (cs := (Value.int .u8 (i : Int)).cells) (t := 5) (b := W.heap.size) rfl
          refine hK.out (.slice (some ⟨W.heap.size, 0, none⟩) 1 1) (x.1, W.heap.size, x.2.2) _ (by simp (decide := true) [putO, setF, upd, h8, h9, h10]) ⟨S, fun hx => (by simp [upd, h8] at hx), hN2.permC ?_⟩
          simp only [upd_self, upd_ne L (show (12 : Nat) ≠ 7 by decide), upd_ne L (show (13 : Nat) ≠ 7 by decide), hL, h13, cond_true, cond_false, Value.cells]
          exact (perm_cnt fun x => by simp only [cnt_append, cnt_cons, cnt_nil] <;> omega)
        · intro L x W hW hC hL hd B K hB hK; (try simp [depsB, Region.binds] at hd); (try simp only [Nat.reduceAdd] at hK hL)
          (have e43 := hB.out 43); (simp (decide := true) only [look, if_true, if_false, hd, cond_true, cond_false, Array.getD_eq_getD_getElem?, List.getElem?_toArray, List.getElem?_cons_succ, List.getElem?_cons_zero, Option.getD_some] at e43); (have e47 := hB.out 47); (simp (decide := true) only [look, if_true, if_false, hd, cond_true, cond_false, Array.getD_eq_getD_getElem?, List.getElem?_toArray, List.getElem?_cons_succ, List.getElem?_cons_zero, Option.getD_some] at e47); (have e50 := hB.out 50); (simp (decide := true) only [look, if_true, if_false, hd, cond_true, cond_false, Array.getD_eq_getD_getElem?, List.getElem?_toArray, List.getElem?_cons_succ, List.getElem?_cons_zero, Option.getD_some] at e50)
          have h9 : L 9 = false := by cases hl : L 9 with | false => rfl | true => have hx := hC 9 _ rfl hl; simp [depsB, Region.binds, hL] at hx
          have h10 : L 10 = false := by cases hl : L 10 with | false => rfl | true => have hx := hC 10 _ rfl hl; simp [depsB, Region.binds, h9] at hx
          obtain ⟨S, hS, hN⟩ := hW
          have hb : HasBlk W x.2.1 5 #[.int .u8 i] := hN.has (by simp [hd])
          refine wp_call_in 16 (by rfl) (by kernel_rfl) #[.agg #[.int .u8 (by8 dx 0), .int .u8 (by8 dx 1), .int .u8 (by8 dx 2), .int .u8 (by8 dx 3), .int .u8 (by8 dx 4), .int .u8 (by8 dx 5), .int .u8 (by8 dx 6), .int .u8 (by8 dx 7)], .int .i64 m, .slice (some ⟨x.2.1, 0, none⟩) 1 1] (by simp [Act.eval, e43, e47, e50]) ((MK.out W x.2.1 hb).mono ?_)
          rintro e W4 ⟨au, cu, rfl, hb4, S4, hm4, hp4, hx4⟩
          refine ⟨_, rfl, ?_⟩
          have hN4 := hN.found (Ext.of_below hb4) hp4 hx4
          refine hK.out (.tuple #[.agg #[.int .u8 (by8 h 0), .int .u8 (by8 h 1), .int .u8 (by8 h 2), .int .u8 (by8 h 3), .int .u8 (by8 h 4), .int .u8 (by8 h 5), .int .u8 (by8 h 6), .int .u8 (by8 h 7), .int .i64 m, .slice au y.length cu], .int .i64 0]) ((au, cu), x.2) W4 (by simp (decide := true) [putO, setF, upd, h9, h10]) ⟨S4 ++ S, fun _ => hm4.mono (by intro z hz; simp [hz]), ?_⟩
          have h13 : L 13 = false := by cases hl : L 13 with | false => rfl | true => have hx := hC 13 _ rfl hl; simp [depsB, Region.binds, hL] at hx
          refine hN4.permC ?_
          simp only [upd_ne L (show (12 : Nat) ≠ 8 by decide), upd_ne L (show (13 : Nat) ≠ 8 by decide), upd_ne L (show (7 : Nat) ≠ 8 by decide), h13, cond_false]
          exact (perm_cnt fun x => by simp only [cnt_append, cnt_cons, cnt_nil] <;> omega)
        · (intro L x W hW hC hL hd B K hB hK; (try simp [depsB, Region.binds] at hd); (try simp only [Nat.reduceAdd] at hK hL); (have e51 := hB.out 51); (simp (decide := true) only [look, if_true, if_false, hd, cond_true, cond_false, Array.getD_eq_getD_getElem?, List.getElem?_toArray, List.getElem?_cons_succ, List.getElem?_cons_zero, Option.getD_some] at e51); go_simp; exact hK.out (.tuple #[.agg #[.int .u8 (by8 h 0), .int .u8 (by8 h 1), .int .u8 (by8 h 2), .int .u8 (by8 h 3), .int .u8 (by8 h 4), .int .u8 (by8 h 5), .int .u8 (by8 h 6), .int .u8 (by8 h 7), .int .i64 m, .slice x.1.1 y.length x.1.2], .int .i64 0]) x W (by simp (decide := true) [putO, setF, upd]) hW)
        · (intro L x W hW hC hL hd B K hB hK; (try simp [depsB, Region.binds] at hd); (try simp only [Nat.reduceAdd] at hK hL); (have e42 := hB.out 42); (simp (decide := true) only [look, if_true, if_false, hd, cond_true, cond_false, Array.getD_eq_getD_getElem?, List.getElem?_toArray, List.getElem?_cons_succ, List.getElem?_cons_zero, Option.getD_some] at e42); go_simp; exact hK.out (.agg #[.int .u8 (by8 h 0), .int .u8 (by8 h 1), .int .u8 (by8 h 2), .int .u8 (by8 h 3), .int .u8 (by8 h 4), .int .u8 (by8 h 5), .int .u8 (by8 h 6), .int .u8 (by8 h 7), .int .i64 m, .slice x.1.1 y.length x.1.2]) x W (by simp (decide := true) [putO, setF, upd]) hW)
        · (intro L x W hW hC hL hd B K hB hK; (try simp [depsB, Region.binds] at hd); (try simp only [Nat.reduceAdd] at hK hL); (have e42 := hB.out 42); (simp (decide := true) only [look, if_true, if_false, hd, cond_true, cond_false, Array.getD_eq_getD_getElem?, List.getElem?_toArray, List.getElem?_cons_succ, List.getElem?_cons_zero, Option.getD_some] at e42); go_simp; exact hK.out (.int .i64 0) x W (by simp (decide := true) [putO, setF, upd]) hW)
        · intro L x W hW hC hL hd B K hB hK; (try simp [depsB, Region.binds] at hd); (try simp only [Nat.reduceAdd] at hK hL)
          have h13 : L 13 = false := by cases hl : L 13 with | false => rfl | true => have hx := hC 13 _ rfl hl; simp [depsB, Region.binds, hL] at hx
          obtain ⟨S, hS, hN⟩ := hW
          refine wp_ran (run_alloc_op rfl (z := .agg #[.int .u8 0, .int .u8 0, .int .u8 0, .int .u8 0, .int .u8 0, .int .u8 0, .int .u8 0, .int .u8 0, .int .i64 0, .slice none 0 0]) (by kernel_rfl) W) ?_
          have hN2 := hN.park (cs := #[.int .u8 0, .int .u8 0, .int .u8 0, .int .u8 0, .int .u8 0, .int .u8 0, .int .u8 0, .int .u8 0, .int .i64 0, .slice none 0 0]) (t := 29) (b := W.heap.size) rfl
          refine hK.out (tptr W.heap.size) (x.1, x.2.1, W.heap.size) _ (by simp (decide := true) [putO, setF, upd, h13]) ⟨S, fun hx => hS (by simpa [upd] using hx), hN2.permC ?_⟩
          simp only [upd_self, upd_ne L (show (7 : Nat) ≠ 12 by decide), upd_ne L (show (13 : Nat) ≠ 12 by decide), hL, h13, cond_true, cond_false]
          exact (perm_cnt fun x => by simp only [cnt_append, cnt_cons, cnt_nil] <;> omega)
        · intro L x W hW hC hL hd B K hB hK; (try simp [depsB, Region.binds] at hd); (try simp only [Nat.reduceAdd] at hK hL)
          (have e10 := hB.out 10); (simp (decide := true) only [look, if_true, if_false, hd, cond_true, cond_false, Array.getD_eq_getD_getElem?, List.getElem?_toArray, List.getElem?_cons_succ, List.getElem?_cons_zero, Option.getD_some] at e10); (have e52 := hB.out 52); (simp (decide := true) only [look, if_true, if_false, hd, cond_true, cond_false, Array.getD_eq_getD_getElem?, List.getElem?_toArray, List.getElem?_cons_succ, List.getElem?_cons_zero, Option.getD_some] at e52)
          have h10' := hC 10 _ rfl (by simp only [hd])
          simp [depsB, Region.binds] at h10'
          have h9' := hC 9 _ rfl (by simp only [h10'])
          simp [depsB, Region.binds] at h9'
          have h8' := hC 8 _ rfl (by simp only [h9'])
          simp [depsB, Region.binds] at h8'
          obtain ⟨S, hS, hN⟩ := hW
          simp only [hL, hd, h8', cond_true, cond_false, List.cons_append, List.nil_append] at hN
          refine Tw.storeAt hN 29 (.tmp 10) (.tmp 52) (by rfl) (by simp [Act.eval, e10]) (#[.int .u8 (by8 h 0), .int .u8 (by8 h 1), .int .u8 (by8 h 2), .int .u8 (by8 h 3), .int .u8 (by8 h 4), .int .u8 (by8 h 5), .int .u8 (by8 h 6), .int .u8 (by8 h 7), .int .i64 m, .slice x.1.1 y.length x.1.2]) (by simp [Act.eval, e52]) (by kernel_rfl) (by rfl) (by simp [Value.oneCell']) (fun W4 h4 => ?_)
          exact hK.out undef x W4 (by simp (decide := true) [putO, setF, upd]) ⟨S, fun hx => hS (by simpa [upd] using hx), by simpa [upd, hd, h8'] using h4⟩
        · (intro L x W hW hC hL hd B K hB hK; (try simp [depsB, Region.binds] at hd); (try simp only [Nat.reduceAdd] at hK hL); (have e53 := hB.out 53); (simp (decide := true) only [look, if_true, if_false, hd, cond_true, cond_false, Array.getD_eq_getD_getElem?, List.getElem?_toArray, List.getElem?_cons_succ, List.getElem?_cons_zero, Option.getD_some] at e53); go_simp; exact hK.out (.int .i64 0) x W (by simp (decide := true) [putO, setF, upd]) hW)
        intro x W9 hW9
        simp only [ovl, cond_true, Array.getD_eq_getD_getElem?, List.getElem?_toArray, List.getElem?_cons_succ, List.getElem?_cons_zero, Option.getD_some, List.setIfInBounds_toArray, List.set_cons_zero, List.set_cons_succ]
        (try simp only [cond_true] at hW9)
        obtain ⟨S, hS, h5⟩ := hW9
        have HM := Lib.hid (hS (by trivial))
        obtain ⟨⟨au, cu⟩, kb, b10⟩ := x
        simp only at HM h5 ⊢
        have H5 : Hid (Tw W9 w (⟨b10, 29, #[.int .u8 (by8 h 0), .int .u8 (by8 h 1), .int .u8 (by8 h 2), .int .u8 (by8 h 3), .int .u8 (by8 h 4), .int .u8 (by8 h 5), .int .u8 (by8 h 6), .int .u8 (by8 h 7), .int .i64 m, .slice au y.length cu]⟩ :: (⟨kb, 5, #[.int .u8 i]⟩ :: (S ++ [⟨bx, 22, #[.int .u8 (by8 dx 0), .int .u8 (by8 dx 1), .int .u8 (by8 dx 2), .int .u8 (by8 dx 3), .int .u8 (by8 dx 4), .int .u8 (by8 dx 5), .int .u8 (by8 dx 6), .int .u8 (by8 dx 7)]⟩]))) X [] p T) := h5
        clear h5 hS
        have hq := H5.out.has (List.mem_cons_self ..)
        (have a0 := hq.cell 0); (have a1 := hq.cell 1); (have a2 := hq.cell 2); (have a3 := hq.cell 3); (have a4 := hq.cell 4); (have a5 := hq.cell 5); (have a6 := hq.cell 6); (have a7 := hq.cell 7); (have a8 := hq.cell 8); (have a9 := hq.cell 9); (have la := hq.lt)
        simp only [List.getElem?_toArray, List.getElem?_cons_succ, List.getElem?_cons_zero] at a0 a1 a2 a3 a4 a5 a6 a7 a8 a9
        clear hq HT MK
        obtain ⟨hok, hyes, hno⟩ := rel_take HREL.out m hnum
        rw [HH.out, HY.out] at hyes hno
        have HOK := Lib.hid hok
        have HNUM := Lib.hid hnum
        clear hok hnum
        by_cases hbm : best < m
        · obtain ⟨q1, q2⟩ := hyes hbm
          have HE := Lib.hid q1
          have HT' := Lib.hid q2
          have hdb : decide (best < m) = true := decide_eq_true hbm
          clear hyes hno q1 q2
          go_wp2_with fail
          refine (take_to p T HOK.out h m _ y _ w _ X [] H5.out (H5.out.bsl HM.out (sub_cnt fun x => by simp only [cnt_append, cnt_cons, cnt_nil]; omega)) 0 HE.out _ HT'.out).mono ?_
          rintro e w6 ⟨rfl, N, h6⟩
          have hc6 := HOLD.out _ _ _ _ h6
          have hr6 : r < w6.heap.size := Nat.lt_of_lt_of_le hr h6.below.size
          have H6 := Lib.hid h6
          clear h6 H5 a0 a1 a2 a3 a4 a5 a6 a7 a8 a9 la
          go_wp2
          exact ⟨⟨i + 1, m, (i : Int), _, _, rfl, rfl, by simp, by omega, .inr ⟨i, rfl, by omega, HNUM.out, rfl⟩, Tw.dropC (D := ⟨b10, 29, #[.int .u8 (by8 h 0), .int .u8 (by8 h 1), .int .u8 (by8 h 2), .int .u8 (by8 h 3), .int .u8 (by8 h 4), .int .u8 (by8 h 5), .int .u8 (by8 h 6), .int .u8 (by8 h 7), .int .i64 m, .slice au y.length cu]⟩ :: (⟨kb, 5, #[.int .u8 i]⟩ :: S)) H6.out⟩, by simp [intOf]; omega⟩
        · obtain ⟨q1, q2⟩ := hno hbm
          have HE := Lib.hid q1
          have HT' := Lib.hid q2
          have hdb : decide (best < m) = false := decide_eq_false hbm
          clear hyes hno q1 q2
          go_wp2_with fail
          refine (take_to p T HOK.out h m _ y _ w _ X [] H5.out (H5.out.bsl HM.out (sub_cnt fun x => by simp only [cnt_append, cnt_cons, cnt_nil]; omega)) 18 HE.out _ HT'.out).mono ?_
          rintro e w6 ⟨rfl, N, h6⟩
          have hc6 := HOLD.out _ _ _ _ h6
          have hr6 : r < w6.heap.size := Nat.lt_of_lt_of_le hr h6.below.size
          have H6 := Lib.hid h6
          clear h6 H5 a0 a1 a2 a3 a4 a5 a6 a7 a8 a9 la
          go_wp2
          exact ⟨⟨i + 1, best, at_, T, _, rfl, rfl, by simp, by omega, HREL.out.step, Tw.dropC (D := ⟨b10, 29, #[.int .u8 (by8 h 0), .int .u8 (by8 h 1), .int .u8 (by8 h 2), .int .u8 (by8 h 3), .int .u8 (by8 h 4), .int .u8 (by8 h 5), .int .u8 (by8 h 6), .int .u8 (by8 h 7), .int .i64 m, .slice au y.length cu]⟩ :: (⟨kb, 5, #[.int .u8 i]⟩ :: S)) H6.out⟩, by simp [intOf]; omega⟩
      · have hnum' : isNum m = false := by simpa using hnum
        have HNUM := Lib.hid hnum'
        have HWR := Lib.hid hwr
        clear hnum hnum' hwr hc hri hcell hold
        clear x0 x1 x2 x3 x4 x5 x6 x7 lx
        go_wp2_with fail
        refine wp_region_o2 [43, 44, 45, 46, 47, 48, 49, 50, 51, 42, 52, 53, 10, 11] (fun L (x : (Option Addr × Nat) × Nat × Nat) => [(L 0, 43, .agg #[.int .u8 (by8 dx 0), .int .u8 (by8 dx 1), .int .u8 (by8 dx 2), .int .u8 (by8 dx 3), .int .u8 (by8 dx 4), .int .u8 (by8 dx 5), .int .u8 (by8 dx 6), .int .u8 (by8 dx 7)]), (L 1, 44, .slice (some ⟨r, o, none⟩) n cv), (L 2, 45, .int .i64 i), (L 3, 46, .pointer (some ⟨r, o + i, none⟩)), (L 4, 47, .int .i64 m), (L 5, 48, .int .i64 i), (L 6, 49, .int .u8 i), (L 7, 50, bif L 7 then .slice (some ⟨x.2.1, 0, none⟩) 1 1 else undef), (L 8, 51, .tuple #[.agg #[.int .u8 0, .int .u8 0, .int .u8 0, .int .u8 0, .int .u8 0, .int .u8 0, .int .u8 0, .int .u8 0, .int .i64 0, .slice none 0 0], .int .i64 2]), (L 9, 42, .tuple #[.agg #[.int .u8 0, .int .u8 0, .int .u8 0, .int .u8 0, .int .u8 0, .int .u8 0, .int .u8 0, .int .u8 0, .int .i64 0, .slice none 0 0], .int .i64 2]), (L 10, 52, .agg #[.int .u8 0, .int .u8 0, .int .u8 0, .int .u8 0, .int .u8 0, .int .u8 0, .int .u8 0, .int .u8 0, .int .i64 0, .slice none 0 0]), (L 11, 53, .int .i64 2), (L 12, 10, bif L 12 then tptr x.2.2 else undef), (L 14, 11, .int .i64 2)])
          (fun L x W => ∃ S : List Blk, (L 8 = true → True) ∧ Tw W w ((bif L 12 then [⟨x.2.2, 29, bif L 13 then #[.int .u8 0, .int .u8 0, .int .u8 0, .int .u8 0, .int .u8 0, .int .u8 0, .int .u8 0, .int .u8 0, .int .i64 0, .slice none 0 0] else #[.int .u8 0, .int .u8 0, .int .u8 0, .int .u8 0, .int .u8 0, .int .u8 0, .int .u8 0, .int .u8 0, .int .i64 0, .slice none 0 0]⟩] else []) ++ ((bif L 7 then [⟨x.2.1, 5, #[.int .u8 i]⟩] else []) ++ (S ++ [⟨bx, 22, #[.int .u8 (by8 dx 0), .int .u8 (by8 dx 1), .int .u8 (by8 dx 2), .int .u8 (by8 dx 3), .int .u8 (by8 dx 4), .int .u8 (by8 dx 5), .int .u8 (by8 dx 6), .int .u8 (by8 dx 7)]⟩]))) X [] p T) ((none, 0), 0, 0) (by kernel_rfl) (by kernel_rfl) 113 (by rfl) (fun _ _ => rfl) (by kernel_rfl) (by kernel_rfl) (by kernel_rfl) (by rfl) ⟨[], fun hx => (by simp at hx), HT.out.drew⟩ ?_ ⟨?_, ?_, ?_, ?_, ?_, ?_, ?_, ?_, ?_, ?_, ?_, ?_, ?_, ?_, ?_, trivial⟩
        rotate_left
        · (intro L x W hW hC hL hd B K hB hK; (try simp [depsB, Region.binds] at hd); (try simp only [Nat.reduceAdd] at hK hL); (have e2 := hB.out 2); (simp (decide := true) only [look, if_true, if_false, hd, cond_true, cond_false, Array.getD_eq_getD_getElem?, List.getElem?_toArray, List.getElem?_cons_succ, List.getElem?_cons_zero, Option.getD_some] at e2); (have hW0 := hW); (obtain ⟨S, hS, hN⟩ := hW0); (have hq := hN.has (b := bx) (t := 22) (cs := #[.int .u8 (by8 dx 0), .int .u8 (by8 dx 1), .int .u8 (by8 dx 2), .int .u8 (by8 dx 3), .int .u8 (by8 dx 4), .int .u8 (by8 dx 5), .int .u8 (by8 dx 6), .int .u8 (by8 dx 7)]) (by simp)); (have q0 := hq.cell 0); (have q1 := hq.cell 1); (have q2 := hq.cell 2); (have q3 := hq.cell 3); (have q4 := hq.cell 4); (have q5 := hq.cell 5); (have q6 := hq.cell 6); (have q7 := hq.cell 7); (have lq := hq.lt); (simp only [List.getElem?_toArray, List.getElem?_cons_succ, List.getElem?_cons_zero] at q0 q1 q2 q3 q4 q5 q6 q7); clear hq; clear hS hN; go_simp; exact hK.out (.agg #[.int .u8 (by8 dx 0), .int .u8 (by8 dx 1), .int .u8 (by8 dx 2), .int .u8 (by8 dx 3), .int .u8 (by8 dx 4), .int .u8 (by8 dx 5), .int .u8 (by8 dx 6), .int .u8 (by8 dx 7)]) x W (by simp (decide := true) [putO, setF, upd]) hW)
        · (intro L x W hW hC hL hd B K hB hK; (try simp [depsB, Region.binds] at hd); (try simp only [Nat.reduceAdd] at hK hL); (have e1 := hB.out 1); (simp (decide := true) only [look, if_true, if_false, hd, cond_true, cond_false, Array.getD_eq_getD_getElem?, List.getElem?_toArray, List.getElem?_cons_succ, List.getElem?_cons_zero, Option.getD_some] at e1); go_simp; exact hK.out (.slice (some ⟨r, o, none⟩) n cv) x W (by simp (decide := true) [putO, setF, upd]) hW)
        · (intro L x W hW hC hL hd B K hB hK; (try simp [depsB, Region.binds] at hd); (try simp only [Nat.reduceAdd] at hK hL); (have e9 := hB.out 9); (simp (decide := true) only [look, if_true, if_false, hd, cond_true, cond_false, Array.getD_eq_getD_getElem?, List.getElem?_toArray, List.getElem?_cons_succ, List.getElem?_cons_zero, Option.getD_some] at e9); go_simp; exact hK.out (.int .i64 i) x W (by simp (decide := true) [putO, setF, upd]) hW)
        · (intro L x W hW hC hL hd B K hB hK; (try simp [depsB, Region.binds] at hd); (try simp only [Nat.reduceAdd] at hK hL); (have e44 := hB.out 44); (simp (decide := true) only [look, if_true, if_false, hd, cond_true, cond_false, Array.getD_eq_getD_getElem?, List.getElem?_toArray, List.getElem?_cons_succ, List.getElem?_cons_zero, Option.getD_some] at e44); (have e45 := hB.out 45); (simp (decide := true) only [look, if_true, if_false, hd, cond_true, cond_false, Array.getD_eq_getD_getElem?, List.getElem?_toArray, List.getElem?_cons_succ, List.getElem?_cons_zero, Option.getD_some] at e45); go_simp; exact hK.out (.pointer (some ⟨r, o + i, none⟩)) x W (by simp (decide := true) [putO, setF, upd]) hW)
        · (intro L x W hW hC hL hd B K hB hK; (try simp [depsB, Region.binds] at hd); (try simp only [Nat.reduceAdd] at hK hL); (have e46 := hB.out 46); (simp (decide := true) only [look, if_true, if_false, hd, cond_true, cond_false, Array.getD_eq_getD_getElem?, List.getElem?_toArray, List.getElem?_cons_succ, List.getElem?_cons_zero, Option.getD_some] at e46); (have hW0 := hW); (obtain ⟨S, hS, hN⟩ := hW0); (have hc := HOLD.out _ _ _ _ hN); (have hri : r < W.heap.size := Nat.lt_of_lt_of_le hr hN.below.size); clear hS hN; go_simp; exact hK.out (.int .i64 m) x W (by simp (decide := true) [putO, setF, upd]) hW)
        · (intro L x W hW hC hL hd B K hB hK; (try simp [depsB, Region.binds] at hd); (try simp only [Nat.reduceAdd] at hK hL); (have e9 := hB.out 9); (simp (decide := true) only [look, if_true, if_false, hd, cond_true, cond_false, Array.getD_eq_getD_getElem?, List.getElem?_toArray, List.getElem?_cons_succ, List.getElem?_cons_zero, Option.getD_some] at e9); go_simp; exact hK.out (.int .i64 i) x W (by simp (decide := true) [putO, setF, upd]) hW)
        · (intro L x W hW hC hL hd B K hB hK; (try simp [depsB, Region.binds] at hd); (try simp only [Nat.reduceAdd] at hK hL); (have e48 := hB.out 48); (simp (decide := true) only [look, if_true, if_false, hd, cond_true, cond_false, Array.getD_eq_getD_getElem?, List.getElem?_toArray, List.getElem?_cons_succ, List.getElem?_cons_zero, Option.getD_some] at e48); (have hwr := HWR.out); go_simp; exact hK.out (.int .u8 i) x W (by simp (decide := true) [putO, setF, upd]) hW)
        · intro L x W hW hC hL hd B K hB hK; (try simp [depsB, Region.binds] at hd); (try simp only [Nat.reduceAdd] at hK hL)
          (have e49 := hB.out 49); (simp (decide := true) only [look, if_true, if_false, hd, cond_true, cond_false, Array.getD_eq_getD_getElem?, List.getElem?_toArray, List.getElem?_cons_succ, List.getElem?_cons_zero, Option.getD_some] at e49)
          have h8 : L 8 = false := by cases hl : L 8 with | false => rfl | true => have hx := hC 8 _ rfl hl; simp [depsB, Region.binds, hL] at hx
          have h13 : L 13 = false := by cases hl : L 13 with | false => rfl | true => have hx := hC 13 _ rfl hl; simp [depsB, Region.binds, hL] at hx
          obtain ⟨S, hS, hN⟩ := hW
          refine wp_ran (run_buildSlice_one elt_byte rfl (.int .u8 i) (by simp [Act.eval, e49]) rfl (by omega) W) ?_
          have hN2 := hN.park (cs := (Value.int .u8 (i : Int)).cells) (t := 5) (b := W.heap.size) rfl
          refine hK.out (.slice (some ⟨W.heap.size, 0, none⟩) 1 1) (x.1, W.heap.size, x.2.2) _ (by simp (decide := true) [putO, setF, upd, h8]) ⟨S, fun hx => (by simp [upd, h8] at hx), hN2.permC ?_⟩
          simp only [upd_self, upd_ne L (show (12 : Nat) ≠ 7 by decide), upd_ne L (show (13 : Nat) ≠ 7 by decide), hL, h13, cond_true, cond_false, Value.cells]
          exact (perm_cnt fun x => by simp only [cnt_append, cnt_cons, cnt_nil] <;> omega)
        · intro L x W hW hC hL hd B K hB hK; (try simp [depsB, Region.binds] at hd); (try simp only [Nat.reduceAdd] at hK hL)
          (have e43 := hB.out 43); (simp (decide := true) only [look, if_true, if_false, hd, cond_true, cond_false, Array.getD_eq_getD_getElem?, List.getElem?_toArray, List.getElem?_cons_succ, List.getElem?_cons_zero, Option.getD_some] at e43); (have e47 := hB.out 47); (simp (decide := true) only [look, if_true, if_false, hd, cond_true, cond_false, Array.getD_eq_getD_getElem?, List.getElem?_toArray, List.getElem?_cons_succ, List.getElem?_cons_zero, Option.getD_some] at e47); (have e50 := hB.out 50); (simp (decide := true) only [look, if_true, if_false, hd, cond_true, cond_false, Array.getD_eq_getD_getElem?, List.getElem?_toArray, List.getElem?_cons_succ, List.getElem?_cons_zero, Option.getD_some] at e50)
          obtain ⟨S, hS, hN⟩ := hW
          refine wp_call_in 16 (by rfl) (by kernel_rfl) #[.agg #[.int .u8 (by8 dx 0), .int .u8 (by8 dx 1), .int .u8 (by8 dx 2), .int .u8 (by8 dx 3), .int .u8 (by8 dx 4), .int .u8 (by8 dx 5), .int .u8 (by8 dx 6), .int .u8 (by8 dx 7)], .int .i64 m, .slice (some ⟨x.2.1, 0, none⟩) 1 1] (by simp [Act.eval, e43, e47, e50]) ((make_range dx m _ HNUM.out W).mono ?_)
          rintro e W4 ⟨rfl, hb4⟩
          refine ⟨_, rfl, ?_⟩
          exact hK.out (.tuple #[.agg #[.int .u8 0, .int .u8 0, .int .u8 0, .int .u8 0, .int .u8 0, .int .u8 0, .int .u8 0, .int .u8 0, .int .i64 0, .slice none 0 0], .int .i64 2]) x W4 (by simp (decide := true) [putO, setF, upd]) ⟨S, fun _ => trivial, hN.of_below hb4⟩
        · (intro L x W hW hC hL hd B K hB hK; (try simp [depsB, Region.binds] at hd); (try simp only [Nat.reduceAdd] at hK hL); (have e51 := hB.out 51); (simp (decide := true) only [look, if_true, if_false, hd, cond_true, cond_false, Array.getD_eq_getD_getElem?, List.getElem?_toArray, List.getElem?_cons_succ, List.getElem?_cons_zero, Option.getD_some] at e51); go_simp; exact hK.out (.tuple #[.agg #[.int .u8 0, .int .u8 0, .int .u8 0, .int .u8 0, .int .u8 0, .int .u8 0, .int .u8 0, .int .u8 0, .int .i64 0, .slice none 0 0], .int .i64 2]) x W (by simp (decide := true) [putO, setF, upd]) hW)
        · (intro L x W hW hC hL hd B K hB hK; (try simp [depsB, Region.binds] at hd); (try simp only [Nat.reduceAdd] at hK hL); (have e42 := hB.out 42); (simp (decide := true) only [look, if_true, if_false, hd, cond_true, cond_false, Array.getD_eq_getD_getElem?, List.getElem?_toArray, List.getElem?_cons_succ, List.getElem?_cons_zero, Option.getD_some] at e42); go_simp; exact hK.out (.agg #[.int .u8 0, .int .u8 0, .int .u8 0, .int .u8 0, .int .u8 0, .int .u8 0, .int .u8 0, .int .u8 0, .int .i64 0, .slice none 0 0]) x W (by simp (decide := true) [putO, setF, upd]) hW)
        · (intro L x W hW hC hL hd B K hB hK; (try simp [depsB, Region.binds] at hd); (try simp only [Nat.reduceAdd] at hK hL); (have e42 := hB.out 42); (simp (decide := true) only [look, if_true, if_false, hd, cond_true, cond_false, Array.getD_eq_getD_getElem?, List.getElem?_toArray, List.getElem?_cons_succ, List.getElem?_cons_zero, Option.getD_some] at e42); go_simp; exact hK.out (.int .i64 2) x W (by simp (decide := true) [putO, setF, upd]) hW)
        · intro L x W hW hC hL hd B K hB hK; (try simp [depsB, Region.binds] at hd); (try simp only [Nat.reduceAdd] at hK hL)
          have h13 : L 13 = false := by cases hl : L 13 with | false => rfl | true => have hx := hC 13 _ rfl hl; simp [depsB, Region.binds, hL] at hx
          obtain ⟨S, hS, hN⟩ := hW
          refine wp_ran (run_alloc_op rfl (z := .agg #[.int .u8 0, .int .u8 0, .int .u8 0, .int .u8 0, .int .u8 0, .int .u8 0, .int .u8 0, .int .u8 0, .int .i64 0, .slice none 0 0]) (by kernel_rfl) W) ?_
          have hN2 := hN.park (cs := #[.int .u8 0, .int .u8 0, .int .u8 0, .int .u8 0, .int .u8 0, .int .u8 0, .int .u8 0, .int .u8 0, .int .i64 0, .slice none 0 0]) (t := 29) (b := W.heap.size) rfl
          refine hK.out (tptr W.heap.size) (x.1, x.2.1, W.heap.size) _ (by simp (decide := true) [putO, setF, upd, h13]) ⟨S, fun hx => hS (by simpa [upd] using hx), hN2.permC ?_⟩
          simp only [upd_self, upd_ne L (show (7 : Nat) ≠ 12 by decide), upd_ne L (show (13 : Nat) ≠ 12 by decide), hL, h13, cond_true, cond_false]
          exact (perm_cnt fun x => by simp only [cnt_append, cnt_cons, cnt_nil] <;> omega)
        · intro L x W hW hC hL hd B K hB hK; (try simp [depsB, Region.binds] at hd); (try simp only [Nat.reduceAdd] at hK hL)
          (have e10 := hB.out 10); (simp (decide := true) only [look, if_true, if_false, hd, cond_true, cond_false, Array.getD_eq_getD_getElem?, List.getElem?_toArray, List.getElem?_cons_succ, List.getElem?_cons_zero, Option.getD_some] at e10); (have e52 := hB.out 52); (simp (decide := true) only [look, if_true, if_false, hd, cond_true, cond_false, Array.getD_eq_getD_getElem?, List.getElem?_toArray, List.getElem?_cons_succ, List.getElem?_cons_zero, Option.getD_some] at e52)
          have h10' := hC 10 _ rfl (by simp only [hd])
          simp [depsB, Region.binds] at h10'
          have h9' := hC 9 _ rfl (by simp only [h10'])
          simp [depsB, Region.binds] at h9'
          have h8' := hC 8 _ rfl (by simp only [h9'])
          simp [depsB, Region.binds] at h8'
          obtain ⟨S, hS, hN⟩ := hW
          simp only [hL, hd, h8', cond_true, cond_false, List.cons_append, List.nil_append] at hN
          refine Tw.storeAt hN 29 (.tmp 10) (.tmp 52) (by rfl) (by simp [Act.eval, e10]) (#[.int .u8 0, .int .u8 0, .int .u8 0, .int .u8 0, .int .u8 0, .int .u8 0, .int .u8 0, .int .u8 0, .int .i64 0, .slice none 0 0]) (by simp [Act.eval, e52]) (by kernel_rfl) (by rfl) (by simp [Value.oneCell']) (fun W4 h4 => ?_)
          exact hK.out undef x W4 (by simp (decide := true) [putO, setF, upd]) ⟨S, fun hx => hS (by simpa [upd] using hx), by simpa [upd, hd, h8'] using h4⟩
        · (intro L x W hW hC hL hd B K hB hK; (try simp [depsB, Region.binds] at hd); (try simp only [Nat.reduceAdd] at hK hL); (have e53 := hB.out 53); (simp (decide := true) only [look, if_true, if_false, hd, cond_true, cond_false, Array.getD_eq_getD_getElem?, List.getElem?_toArray, List.getElem?_cons_succ, List.getElem?_cons_zero, Option.getD_some] at e53); go_simp; exact hK.out (.int .i64 2) x W (by simp (decide := true) [putO, setF, upd]) hW)
        intro x W9 hW9
        simp only [ovl, cond_true, Array.getD_eq_getD_getElem?, List.getElem?_toArray, List.getElem?_cons_succ, List.getElem?_cons_zero, Option.getD_some, List.setIfInBounds_toArray, List.set_cons_zero, List.set_cons_succ]
        (try simp only [cond_true] at hW9)
        obtain ⟨S, -, h5⟩ := hW9
        have H5 : Hid (Tw W9 w ([⟨x.2.2, 29, #[.int .u8 0, .int .u8 0, .int .u8 0, .int .u8 0, .int .u8 0, .int .u8 0, .int .u8 0, .int .u8 0, .int .i64 0, .slice none 0 0]⟩, ⟨x.2.1, 5, #[.int .u8 i]⟩] ++ (S ++ [⟨bx, 22, #[.int .u8 (by8 dx 0), .int .u8 (by8 dx 1), .int .u8 (by8 dx 2), .int .u8 (by8 dx 3), .int .u8 (by8 dx 4), .int .u8 (by8 dx 5), .int .u8 (by8 dx 6), .int .u8 (by8 dx 7)]⟩])) X [] p T) := h5
        clear h5 HT
        go_wp2
        exact ⟨⟨i + 1, best, at_, T, X, rfl, rfl, by simp, by omega, HREL.out.step, Tw.dropC (D := S) (Tw.dropC H5.out)⟩, by simp [intOf]; omega⟩
    · obtain rfl : i = n := by omega
      have hTq := hT
      (have hqx := hTq.has (b := bx) (t := 22) (cs := #[.int .u8 (by8 dx 0), .int .u8 (by8 dx 1), .int .u8 (by8 dx 2), .int .u8 (by8 dx 3), .int .u8 (by8 dx 4), .int .u8 (by8 dx 5), .int .u8 (by8 dx 6), .int .u8 (by8 dx 7)]) (by simp)); (have x0 := hqx.cell 0); (have x1 := hqx.cell 1); (have x2 := hqx.cell 2); (have x3 := hqx.cell 3); (have x4 := hqx.cell 4); (have x5 := hqx.cell 5); (have x6 := hqx.cell 6); (have x7 := hqx.cell 7); (have lx := hqx.lt); (simp only [List.getElem?_toArray, List.getElem?_cons_succ, List.getElem?_cons_zero] at x0 x1 x2 x3 x4 x5 x6 x7); clear hqx
      clear hTq hT
      rcases hrel with ⟨rfl, rfl, rfl⟩ | ⟨j, rfl, hj, hbest, rfl⟩
      · clear HREL
        have HS : Hid (seeT ⟨1, []⟩ dx (-1) = ([], false)) := rfl
        go_wp2_with fail
        refine (see_to p _ (TOk.new 1 (by omega)) dx (-1) _ w _ _ [] HT.out [] false HS.out).mono ?_
        rintro e w6 ⟨u6, rfl, hb6, -⟩
        have HB6 := Lib.hid (HT.out.of_below hb6).below
        clear hb6 HT
        clear x0 x1 x2 x3 x4 x5 x6 x7 lx
        go_wp2_with fail
        refine (told51_to _).mono ?_
        rintro e w7 ⟨rfl, hb7⟩
        have HB7 := Lib.hid (HB6.out.trans (hb7.mono HB6.out.size))
        clear hb7 HB6
        go_wp2
        go_ret
        exact ⟨rfl, HB7.out⟩
      · clear HREL
        have hb0 := isNum_bd hbest
        have HS : Hid (seeT (oneT dx best [UInt8.ofNat j]) dx (-1) = ([UInt8.ofNat j], true)) := by
          show _ = _
          rw [seeT_sealed _ dx 0 (-1) best [UInt8.ofNat j] (by simp) (idx_one _ _ rfl) (thintF dx) rfl, if_neg (by omega)]
        have hdj : decide ((j : Int) < 0) = false := decide_eq_false (by omega)
        have hwr : IntKind.u8.wrap (j : Int) = (j : Int) := by simp [IntKind.wrap, IntKind.bits, IntKind.signed]; omega
        obtain ⟨s, hs⟩ : ∃ s, ({ data := [UInt8.ofNat j].toArray } : ByteArray) = s := ⟨_, rfl⟩
        have hss : (s == s) = true := by rw [← hs, beqS]; simp
        have HSS := Lib.hid hs
        clear hs hbest
        go_wp2_with fail
        refine (see_to p _ (oneT_ok dx best _ (by simp)) dx (-1) _ w _ _ [] HT.out [UInt8.ofNat j] true HS.out).mono ?_
        rintro e w6 ⟨u6, rfl, hb6, hu6⟩
        have HB6 := Lib.hid (HT.out.of_below hb6).below
        have hcv1 : (convert 26 9 u6).run Try.prog w6 = .ok (.string s) w6 := by rw [run_strT w6 u6 _ hu6.bsl, HSS.out]
        have hcv2 : (convert 26 9 (.slice (some ⟨w6.heap.size, 0, none⟩) 1 1)).run Try.prog (w6.alloc (.cells #[.int .u8 (j : Int)] 5)) = .ok (.string s) (w6.alloc (.cells #[.int .u8 (j : Int)] 5)) := by
          have hbb : HasBlk (w6.alloc (.cells #[.int .u8 (j : Int)] 5)) w6.heap.size 5 #[.int .u8 ((UInt8.ofNat j).toNat : Int)] := by
            have : ((UInt8.ofNat j).toNat : Int) = (j : Int) := by simp; omega
            rw [this]; exact HasBlk.new _ _ _ _ rfl
          rw [run_strT _ _ _ (bsl_one hbb), HSS.out]
        clear hb6 HT hu6 hb0
        clear x0 x1 x2 x3 x4 x5 x6 x7 lx
        go_wp2_with fail
        refine (told51_to _).mono ?_
        rintro e w7 ⟨rfl, hb7⟩
        have HB7 := Lib.hid ((balloc HB6.out _).trans (hb7.mono (balloc HB6.out _).size))
        clear hb7 HB6
        go_wp2
        go_ret
        exact ⟨rfl, HB7.out⟩

end Go.Proofs.Ytghaiplhakeahaa
