/- tower: contracts of an appointment's same, of EqualFunc over appointments, of Same. -/
import Derived.Test.YtghaiplhakeahaaYw
namespace Go.Proofs.Ytghaiplhakeahaa
set_option linter.unusedSimpArgs false
set_option linter.unusedVariables false
open Go.RowKit Go.WideMaps Go.ChangeMaps Go.Maps

def sameAP (a b : AP) : Bool := a.h == b.h && (a.n == b.n && a.l == b.l)
theorem sameAP_iff (a b : AP) : sameAP a b = true ↔ a = b := by
  obtain ⟨h, n, l⟩ := a
  obtain ⟨h', n', l'⟩ := b
  simp [sameAP]
set_option maxRecDepth 100000 in
set_option maxHeartbeats 4000000 in
theorem asame_to (a b : AP) (u v : Value) (w : World) (hu : BSl w u a.l) (hv : BSl w v b.l) (c : Bool) (hc : sameAP a b = c) :
    Calls Try.prog 80 #[.agg #[.int .u8 (by8 a.h 0), .int .u8 (by8 a.h 1), .int .u8 (by8 a.h 2), .int .u8 (by8 a.h 3), .int .u8 (by8 a.h 4), .int .u8 (by8 a.h 5), .int .u8 (by8 a.h 6), .int .u8 (by8 a.h 7), .int .i64 a.n, u], .agg #[.int .u8 (by8 b.h 0), .int .u8 (by8 b.h 1), .int .u8 (by8 b.h 2), .int .u8 (by8 b.h 3), .int .u8 (by8 b.h 4), .int .u8 (by8 b.h 5), .int .u8 (by8 b.h 6), .int .u8 (by8 b.h 7), .int .i64 b.n, v]] w fun e w' => e = .returned (.bool c) ∧ Below w.heap.size w w' := by
  subst hc
  have HO := Lib.hid (((Ow.start w).key #[.int .u8 (by8 a.h 0), .int .u8 (by8 a.h 1), .int .u8 (by8 a.h 2), .int .u8 (by8 a.h 3), .int .u8 (by8 a.h 4), .int .u8 (by8 a.h 5), .int .u8 (by8 a.h 6), .int .u8 (by8 a.h 7), .int .i64 a.n, u] 29 w.heap.size rfl).key #[.int .u8 (by8 b.h 0), .int .u8 (by8 b.h 1), .int .u8 (by8 b.h 2), .int .u8 (by8 b.h 3), .int .u8 (by8 b.h 4), .int .u8 (by8 b.h 5), .int .u8 (by8 b.h 6), .int .u8 (by8 b.h 7), .int .i64 b.n, v] 29 (w.heap.size + 1) (by simp))
  have HU := Lib.hid hu
  have HV := Lib.hid hv
  obtain ⟨ah, an, al⟩ := a
  obtain ⟨bh, bn, bl⟩ := b
  simp only at HO HU HV ⊢
  obtain ⟨au, cu, rfl, -, -⟩ := hu
  obtain ⟨av, cv, rfl, -, -⟩ := hv
  unfold sameAP
  simp only
  cases hh : ah == bh with
  | false =>
    simp only [Bool.false_and]
    go_enter Try.func80, Try.ntmps80
    go_wp2
    go_ret
    exact ⟨rfl, by (repeat' (first | (with_reducible exact Below.refl _ _) | (with_reducible refine bplus ?_ _ _) | (with_reducible refine balloc ?_ _) | (with_reducible refine Below.drew ?_) | (with_reducible refine bdrewN ?_ _) | (with_reducible refine Below.setCell ?_ (by go_size) _)))⟩
  | true =>
    simp only [Bool.true_and]
    cases hnn : an == bn with
    | false =>
      simp only [Bool.false_and]
      go_enter Try.func80, Try.ntmps80
      go_wp2
      go_ret
      exact ⟨rfl, by (repeat' (first | (with_reducible exact Below.refl _ _) | (with_reducible refine bplus ?_ _ _) | (with_reducible refine balloc ?_ _) | (with_reducible refine Below.drew ?_) | (with_reducible refine bdrewN ?_ _) | (with_reducible refine Below.setCell ?_ (by go_size) _)))⟩
    | true =>
      simp only [Bool.true_and]
      obtain ⟨c, hc⟩ : ∃ c, (al == bl) = c := ⟨_, rfl⟩
      have HC := Lib.hid hc
      rw [hc]
      clear hc
      go_enter Try.func80, Try.ntmps80
      go_wp2_with fail
      refine (equalB_any _ _ al bl c HC.out _ ((HU.out.alloc _).alloc _) ((HV.out.alloc _).alloc _)).mono ?_
      rintro e w3 ⟨rfl, rfl⟩
      go_wp2
      go_ret
      exact ⟨rfl, by (repeat' (first | (with_reducible exact Below.refl _ _) | (with_reducible refine bplus ?_ _ _) | (with_reducible refine balloc ?_ _) | (with_reducible refine Below.drew ?_) | (with_reducible refine bdrewN ?_ _) | (with_reducible refine Below.setCell ?_ (by go_size) _)))⟩

/-! ### Rows of appointments -/
/-- A row of appointments, wherever it lies. -/
def ASl (w : World) (v : Value) (al : List AP) : Prop := ∃ us : List Value, Rws w v al.length 10 (fun i => acs (al.getD i default) (us.getD i undef)) ∧ ∀ i, i < al.length → BSl w (us.getD i undef) (al.getD i default).l
theorem ASl.slice {w : World} {v : Value} {al : List AP} (h : ASl w v al) : ∃ ao cap, v = .slice ao al.length cap ∧ al.length ≤ cap ∧ (ao = none → al.length = 0 ∧ cap = 0) := by
  obtain ⟨us, h1, -⟩ := h; exact h1.slice
theorem ASl.below {w w' : World} {v : Value} {al : List AP} (h : ASl w v al) (hb : Below w.heap.size w w') : ASl w' v al := by
  obtain ⟨us, ⟨ao, cap, h1, h2, h3⟩, h4⟩ := h
  refine ⟨us, ⟨ao, cap, h1, h2, h3.imp id ?_⟩, fun i hi => (h4 i hi).below hb⟩
  rintro ⟨r, o, e, hlt, hc⟩
  refine ⟨r, o, e, Nat.lt_of_lt_of_le hlt hb.size, fun i hi j u hj => ?_⟩
  rw [← hc i hi j u hj]
  exact World.cell?_of_block (a := ⟨r, _, none⟩) (hb.block _ hlt)
theorem ASl.elem {w : World} {ao : Option Addr} {n cap : Nat} {al : List AP} (h : ASl w (.slice ao n cap) al) {i : Nat} (hi : i < al.length) : ∃ r o u, ao = some ⟨r, o, none⟩ ∧ r < w.heap.size ∧ BSl w u (al.getD i default).l ∧ ∀ j x, (acs (al.getD i default) u)[j]? = some x → w.cell? ⟨r, o + i * 10 + j, none⟩ = some x := by
  obtain ⟨us, ⟨ao', cap', e, h2, h3⟩, h4⟩ := h
  cases e
  rcases h3 with h3 | ⟨r, o, rfl, hlt, hc⟩
  · omega
  · exact ⟨r, o, us.getD i undef, rfl, hlt, h4 i hi, fun j x hj => by rw [Nat.add_assoc]; exact hc i hi j x hj⟩
theorem TwB.asl {w w0 : World} {X C L : List Blk} {K : List (Nat × Obj)} {T : TWS} {v : Value} {es : Array MapEntry} {ck : Nat} {R : List Blk} {vs : List Value} (D : TwB w0 X T v es ck R vs) (O : Omw w w0 (C ++ (R ++ L)) K) (hX : ∀ x ∈ X, x ∈ C ++ (R ++ L)) : ASl w v T.all := by
  obtain ⟨ao, cap, hv⟩ := D.row.slice
  refine ⟨vs, ?_, fun i hi => ?_⟩
  · by_cases h0 : T.all.length = 0
    · have hr := D.row
      obtain ⟨N, hN⟩ : ∃ N, T.all.length = N := ⟨_, rfl⟩
      rw [hN] at hr ⊢
      generalize ecs T.all vs = zs at hr
      cases hr with
      | void => exact ⟨none, 0, rfl, ⟨Nat.le_refl _, fun _ => ⟨rfl, rfl⟩⟩, .inl rfl⟩
      | one r n cap cur h1 h2 h3 => exact ⟨_, cap, rfl, ⟨h1, fun h => by cases h⟩, .inl (by omega)⟩
    · obtain ⟨r, cap', cur, h1, h2, -⟩ := D.at_ O (i := 0) (by omega)
      refine ⟨some ⟨r, 0, none⟩, cap', h1, ⟨h2, fun h => by cases h⟩, .inr ⟨r, 0, rfl, ?_, fun i hi j u hj => ?_⟩⟩
      · obtain ⟨r', cap2, cur', e1, -, -, -, -, -, HB, -⟩ := D.at_ O (i := 0) (by omega)
        rw [h1] at e1
        cases e1
        exact HB.lt
      · obtain ⟨r', cap2, cur', e1, -, -, -, -, -, HB, hc⟩ := D.at_ O hi
        rw [h1] at e1
        cases e1
        rw [Nat.zero_add, HB.cell]
        have hj10 : j < 10 := (List.getElem?_eq_some_iff.1 hj).1
        rw [← hj, ← hc j hj10]
  · obtain ⟨b2, h1, h2⟩ := D.box.get i (by simpa using hi)
    have h3 : (T.all.map (·.l)).getD i [] = (T.all.getD i default).l := by
      rw [List.getD_eq_getElem?_getD, List.getD_eq_getElem?_getD, List.getElem?_map, List.getElem?_eq_getElem hi]; rfl
    rw [h3] at h2
    rw [List.getD_eq_getElem?_getD, h1]
    exact h2.bsl O.ow hX
set_option maxRecDepth 100000 in
set_option maxHeartbeats 4000000 in
theorem eqfunA_to (v1 v2 : Value) (l r : List AP) (w : World) (hn : l.length ≤ 1000000) (hlen : l.length = r.length) (h1 : ASl w v1 l) (h2 : ASl w v2 r) (b : Bool) (hb : b = true ↔ l = r) :
    Calls Try.prog 79 #[v1, v2, .func (.func 80) #[] #[]] w fun e w' => e = .returned (.bool b) ∧ Below w.heap.size w w' := by
  obtain ⟨a1, c1, rfl, hcap1, -⟩ := h1.slice
  obtain ⟨a2, c2, rfl, hcap2, -⟩ := h2.slice
  have HV1 := Lib.hid h1
  have HV2 := Lib.hid h2
  have HB := Lib.hid hb
  clear h1 h2 hb
  generalize hr : r.length = n at *
  have hd : ((n : Int) != (n : Int)) = false := by simp
  rw [hlen] at HV1
  rw [hlen]
  go_enter Try.func79, Try.ntmps79
  go_wp2_with fail
  go_loopw [17] (fun i wr => ∃ (k : Nat), i = .int .i64 k ∧ k ≤ n ∧ (∀ j, j < k → l.getD j default = r.getD j default) ∧ Below w.heap.size w wr) (fun i _ => n - (intOf i).toNat)
  case atStart => exact ⟨0, rfl, by omega, fun j hj => by omega, Below.refl _ _⟩
  case round =>
    obtain ⟨k, rfl, hk, hj, hB⟩ := hrel
    have HBr := Lib.hid hB
    have HJ := Lib.hid hj
    by_cases hlt : k < n
    · obtain ⟨r1, o1, u1, rfl, hr1, hm1, hc1⟩ := (HV1.out.below hB).elem (i := k) (by omega)
      obtain ⟨r2, o2, u2, rfl, hr2, hm2, hc2⟩ := (HV2.out.below hB).elem (i := k) (by omega)
      obtain ⟨y1, HY1⟩ : ∃ m, Hid (l.getD k default = m) := ⟨_, rfl⟩
      obtain ⟨y2, HY2⟩ : ∃ m, Hid (r.getD k default = m) := ⟨_, rfl⟩
      rw [HY1.out] at hc1 hm1
      rw [HY2.out] at hc2 hm2
      have HX1 := Lib.hid hm1
      have HX2 := Lib.hid hm2
      have a0 : wr.cell? ⟨r1, o1 + k * 10, none⟩ = some (.int .u8 (by8 y1.h 0)) := hc1 0 _ rfl
      have b0 : wr.cell? ⟨r2, o2 + k * 10, none⟩ = some (.int .u8 (by8 y2.h 0)) := hc2 0 _ rfl
      have a1 : wr.cell? ⟨r1, o1 + k * 10 + 1, none⟩ = some (.int .u8 (by8 y1.h 1)) := hc1 1 _ rfl
      have b1 : wr.cell? ⟨r2, o2 + k * 10 + 1, none⟩ = some (.int .u8 (by8 y2.h 1)) := hc2 1 _ rfl
      have a2 : wr.cell? ⟨r1, o1 + k * 10 + 2, none⟩ = some (.int .u8 (by8 y1.h 2)) := hc1 2 _ rfl
      have b2 : wr.cell? ⟨r2, o2 + k * 10 + 2, none⟩ = some (.int .u8 (by8 y2.h 2)) := hc2 2 _ rfl
      have a3 : wr.cell? ⟨r1, o1 + k * 10 + 3, none⟩ = some (.int .u8 (by8 y1.h 3)) := hc1 3 _ rfl
      have b3 : wr.cell? ⟨r2, o2 + k * 10 + 3, none⟩ = some (.int .u8 (by8 y2.h 3)) := hc2 3 _ rfl
      have a4 : wr.cell? ⟨r1, o1 + k * 10 + 4, none⟩ = some (.int .u8 (by8 y1.h 4)) := hc1 4 _ rfl
      have b4 : wr.cell? ⟨r2, o2 + k * 10 + 4, none⟩ = some (.int .u8 (by8 y2.h 4)) := hc2 4 _ rfl
      have a5 : wr.cell? ⟨r1, o1 + k * 10 + 5, none⟩ = some (.int .u8 (by8 y1.h 5)) := hc1 5 _ rfl
      have b5 : wr.cell? ⟨r2, o2 + k * 10 + 5, none⟩ = some (.int .u8 (by8 y2.h 5)) := hc2 5 _ rfl
      have a6 : wr.cell? ⟨r1, o1 + k * 10 + 6, none⟩ = some (.int .u8 (by8 y1.h 6)) := hc1 6 _ rfl
      have b6 : wr.cell? ⟨r2, o2 + k * 10 + 6, none⟩ = some (.int .u8 (by8 y2.h 6)) := hc2 6 _ rfl
      have a7 : wr.cell? ⟨r1, o1 + k * 10 + 7, none⟩ = some (.int .u8 (by8 y1.h 7)) := hc1 7 _ rfl
      have b7 : wr.cell? ⟨r2, o2 + k * 10 + 7, none⟩ = some (.int .u8 (by8 y2.h 7)) := hc2 7 _ rfl
      have a8 : wr.cell? ⟨r1, o1 + k * 10 + 8, none⟩ = some (.int .i64 y1.n) := hc1 8 _ rfl
      have b8 : wr.cell? ⟨r2, o2 + k * 10 + 8, none⟩ = some (.int .i64 y2.n) := hc2 8 _ rfl
      have a9 : wr.cell? ⟨r1, o1 + k * 10 + 9, none⟩ = some (u1) := hc1 9 _ rfl
      have b9 : wr.cell? ⟨r2, o2 + k * 10 + 9, none⟩ = some (u2) := hc2 9 _ rfl
      clear hj hc1 hc2 hB
      obtain ⟨au1, cu1, rfl, -, -⟩ := hm1
      obtain ⟨au2, cu2, rfl, -, -⟩ := hm2
      cases hb : sameAP y1 y2 with
      | true =>
        go_wp2_with fail
        refine (asame_to y1 y2 _ _ _ ((HX1.out.alloc _).alloc _) ((HX2.out.alloc _).alloc _) true hb).mono ?_
        rintro e w1 ⟨rfl, hb1⟩
        have HB1 := Lib.hid ((balloc (balloc HBr.out _) _).trans (hb1.mono (by have := HBr.out.size; simp; omega)))
        clear hb1
        go_wp2
        refine ⟨⟨k + 1, by simp, by omega, fun j hj => ?_, HB1.out⟩, by simp [intOf]; omega⟩
        rcases Nat.lt_succ_iff_lt_or_eq.1 hj with h | rfl
        · exact HJ.out j h
        · rw [HY1.out, HY2.out]; exact (sameAP_iff _ _).1 hb
      | false =>
        go_wp2_with fail
        refine (asame_to y1 y2 _ _ _ ((HX1.out.alloc _).alloc _) ((HX2.out.alloc _).alloc _) false hb).mono ?_
        rintro e w1 ⟨rfl, hb1⟩
        have HB1 := Lib.hid ((balloc (balloc HBr.out _) _).trans (hb1.mono (by have := HBr.out.size; simp; omega)))
        clear hb1
        go_wp2
        go_ret
        have hne : l ≠ r := fun e => by
          have h1 := HY1.out
          rw [e, HY2.out] at h1
          rw [(sameAP_iff y1 y2).2 h1.symm] at hb
          cases hb
        have hbf : b = false := by
          cases b with
          | false => rfl
          | true => exact absurd (HB.out.1 rfl) hne
        exact ⟨by rw [hbf]; rfl, HB1.out⟩
    · obtain rfl : k = n := by omega
      clear hj hB
      go_wp2
      go_ret
      have he : l = r := by
        apply List.ext_getElem (by omega)
        intro i h1 h2
        have := HJ.out i (by omega)
        rw [List.getD_eq_getElem?_getD, List.getD_eq_getElem?_getD, List.getElem?_eq_getElem h1, List.getElem?_eq_getElem h2] at this
        simpa using this
      have hbt : b = true := HB.out.2 he
      exact ⟨by rw [hbt]; rfl, HBr.out⟩
set_option maxRecDepth 100000 in
set_option maxHeartbeats 4000000 in
theorem eqfunA_len (v1 v2 : Value) (l r : List AP) (w : World) (hlen : l.length ≠ r.length) (h1 : ASl w v1 l) (h2 : ASl w v2 r) (hn : l.length ≤ 1000000) (hn2 : r.length ≤ 1000000) :
    Calls Try.prog 79 #[v1, v2, .func (.func 80) #[] #[]] w fun e w' => e = .returned (.bool false) ∧ Below w.heap.size w w' := by
  obtain ⟨a1, c1, rfl, hcap1, -⟩ := h1.slice
  obtain ⟨a2, c2, rfl, hcap2, -⟩ := h2.slice
  have hd : ((l.length : Int) == (r.length : Int)) = false := by simp; omega
  go_enter Try.func79, Try.ntmps79
  go_wp2
  go_ret
  exact ⟨rfl, Below.refl _ _⟩
theorem eqfunA_any (v1 v2 : Value) (l r : List AP) (w : World) (hn : l.length ≤ 1000000) (hn2 : r.length ≤ 1000000) (h1 : ASl w v1 l) (h2 : ASl w v2 r) (b : Bool) (hb : b = true ↔ l = r) :
    Calls Try.prog 79 #[v1, v2, .func (.func 80) #[] #[]] w fun e w' => e = .returned (.bool b) ∧ Below w.heap.size w w' := by
  by_cases hlen : l.length = r.length
  · exact eqfunA_to v1 v2 l r w hn hlen h1 h2 b hb
  · have hbf : b = false := by
      cases b with
      | false => rfl
      | true => exact absurd (congrArg List.length (hb.1 rfl)) hlen
    subst hbf
    exact eqfunA_len v1 v2 l r w hlen h1 h2 hn hn2

/-! ### Same -/
set_option maxRecDepth 100000 in
set_option maxHeartbeats 4000000 in
theorem tsame_to (p q : Nat) (T U : TWS) (hT : TOk T) (hU : TOk U) (hroom : T.room = U.room) (w w0 : World) (C X : List Blk) (H : Tw2 w w0 C X p T q U) (b : Bool) (hb : b = true ↔ T.all = U.all) :
    Calls Try.prog 52 #[tptr p, tptr q] w fun e w' => e = .returned (.bool b) ∧ Below w.heap.size w w' := by
  obtain ⟨B, k, B', k', O, ⟨v1, m1, es1, ck1, R1, vs1, rfl, rfl, D1⟩, ⟨v2, m2, es2, ck2, R2, vs2, rfl, rfl, D2⟩⟩ := H
  have hA1 : ASl w v1 T.all := D1.asl (C := [⟨p, 122, #[.int .i64 T.room, v1, .map (some m1)]⟩]) (L := ⟨q, 122, #[.int .i64 U.room, v2, .map (some m2)]⟩ :: (R2 ++ (C ++ X))) (O.perm (perm_cnt fun x => by simp only [cnt_append, cnt_cons, cnt_nil] <;> omega)) (by intro x hx; simp [hx])
  have hA2 : ASl w v2 U.all := D2.asl (C := ⟨p, 122, #[.int .i64 T.room, v1, .map (some m1)]⟩ :: (R1 ++ [⟨q, 122, #[.int .i64 U.room, v2, .map (some m2)]⟩])) (L := C ++ X) (O.perm (perm_cnt fun x => by simp only [cnt_append, cnt_cons, cnt_nil] <;> omega)) (by intro x hx; simp [hx])
  obtain ⟨ak1, kc1, rfl, -, -⟩ := hA1.slice
  obtain ⟨ak2, kc2, rfl, -, -⟩ := hA2.slice
  have l1 : T.all.length ≤ 4096 := Nat.le_trans hT.len hT.room
  have l2 : U.all.length ≤ 4096 := Nat.le_trans hU.len hU.room
  have HBp := O.blk (b := p) (t := 122) (cs := #[.int .i64 T.room, .slice ak1 T.all.length kc1, .map (some m1)]) (by simp)
  have HBq := O.blk (b := q) (t := 122) (cs := #[.int .i64 U.room, .slice ak2 U.all.length kc2, .map (some m2)]) (by simp)
  have lp := HBp.lt
  have lq := HBq.lt
  have p0 : w.cell? ⟨p, 0, none⟩ = some (.int .i64 T.room) := HBp.cell 0
  have p1 : w.cell? ⟨p, 1, none⟩ = some (.slice ak1 T.all.length kc1) := HBp.cell 1
  have q0 : w.cell? ⟨q, 0, none⟩ = some (.int .i64 U.room) := HBq.cell 0
  have q1 : w.cell? ⟨q, 1, none⟩ = some (.slice ak2 U.all.length kc2) := HBq.cell 1
  rw [← hroom] at q0
  have hrr : ((T.room : Int) == (T.room : Int)) = true := by simp
  have T1 : Hid (∀ g d, Calls Try.prog 79 #[.slice ak1 T.all.length kc1, .slice ak2 U.all.length kc2, .func (.func 80) #[] #[]] (plus w g d) fun e w' => e = .returned (.bool b) ∧ Below (plus w g d).heap.size (plus w g d) w') := fun g d => eqfunA_any _ _ T.all U.all _ (by omega) (by omega) (hA1.below (bplus (Below.refl _ _) g d)) (hA2.below (bplus (Below.refl _ _) g d)) b hb
  clear HBp HBq O D1 D2 hA1 hA2 hb hroom
  go_enter Try.func52, Try.ntmps52
  go_wp2_with fail
  refine wp_region_rq (by kernel_rfl) (by kernel_rfl) (by kernel_rfl) ?_
  repeat (first
    | (refine B_skip ?_ ?_; (· rfl); (try simp only [Act.put, List.setIfInBounds_toArray, List.set_cons_zero, List.set_cons_succ]))
    | (refine B_move rfl ?_ ?_; (· rfl); (try simp only [Act.eval, Act.put, Array.getD_eq_getD_getElem?, List.getElem?_toArray, List.getElem?_cons_succ, List.getElem?_cons_zero, Option.getD_some, List.setIfInBounds_toArray, List.set_cons_zero, List.set_cons_succ]))
    | (refine B_plain ?_ ?_; (· rfl); intro K hK; go_big_quiet_op; with_reducible refine hK _ ?_; clear hK K)
    | (refine B_callX (v := ?_) (f := 79) rfl (by kernel_rfl) ?_ (fun xq => ?_) ?_; rotate_left; (· rfl); (· ((simp only [List.map_toArray, List.map_cons, List.map_nil, Act.eval, Array.getD_eq_getD_getElem?, List.getElem?_toArray, List.getElem?_cons_succ, List.getElem?_cons_zero, Option.getD_some]); with_reducible apply retB; with_reducible exact (T1.out _ _))); (try simp only [Act.put, List.setIfInBounds_toArray, List.set_cons_zero, List.set_cons_succ]))
    | (refine B_nilck rfl rfl ?_ ?_; (· rfl); (try simp only [Act.put, List.setIfInBounds_toArray, List.set_cons_zero, List.set_cons_succ])))
  refine B_nil ?_ rfl ?_ ?_
  · kernel_rfl
  · rfl
  rintro _ ⟨⟨g3, d3⟩, rfl⟩
  simp only [fin, Act.put, List.setIfInBounds_toArray, List.set_cons_zero, List.set_cons_succ]
  go_wp2
  go_ret
  exact ⟨rfl, by (repeat' (first | (with_reducible exact Below.refl _ _) | (with_reducible refine bplus ?_ _ _) | (with_reducible refine balloc ?_ _) | (with_reducible refine Below.drew ?_) | (with_reducible refine bdrewN ?_ _) | (with_reducible refine Below.setCell ?_ (by go_size) _)))⟩

end Go.Proofs.Ytghaiplhakeahaa
