/- Contracts of the reference's Bytes, Of, Word. -/
import Derived.Test.YtghaiplhakeahaaOf
import Derived.Test.YtghaiplhakeahaaE
import Derived.Deep.RegionLaw
import Derived.Test.YtghaiplhakeahaaBq
import Derived.Test.YtghaiplhakeahaaMem
namespace Go.Proofs.Ytghaiplhakeahaa
set_option linter.unusedSimpArgs false
set_option linter.unusedVariables false
open Go.RowKit

theorem owns_start (W : World) (e : TypeId) (s k : Nat) (hk : k = W.heap.size) : (W.alloc (.cells #[] e)).ownsRow W.heap.size e s (.slice (some ⟨k, 0, none⟩) 0 0) 0 [] := by
  subst hk
  exact World.ownsRow_made (base := W.heap.size) (e := e) (size := s) W #[] 0 (by simp) (by unfold maxLen; omega) (by simp)

/-- A cell of a row of the call's own. -/
theorem GRow.cell {W0 : World} {B : Nat} {g : Array Obj} {e : TypeId} {s : Nat} {b o n cap m : Nat} {xs : List Value} (h : GRow B g e s (.slice (some ⟨b, o, none⟩) n cap) m xs) (hB : B = W0.heap.size) (d : Nat) : o = 0 ∧ b < (plus W0 g d).heap.size ∧ ∀ (i : Nat) (u : Value), xs[i]? = some u → (plus W0 g d).cell? ⟨b, i, none⟩ = some u := by
  subst hB
  have ho := h.owns d
  rcases h.2 with ⟨h0, _⟩ | ⟨j, cap', cur, h0, hg, hcap, _⟩
  · cases h0
  · cases h0
    have hj := (Array.getElem?_eq_some_iff.1 hg).1
    refine ⟨rfl, by simp; omega, fun i u hu => ?_⟩
    have := ho.cells (g := W0.heap.size + j) rfl _ _ hu
    have hadd : (⟨W0.heap.size + j, 0, none⟩ : Addr).add i = ⟨W0.heap.size + j, 0 + i, none⟩ := by unfold Addr.add; split <;> simp_all
    rw [hadd, Nat.zero_add] at this
    exact this

theorem refIn_to (s : St) (n : Nat) (z : St) (hn : n < 18446744073709551616) (hz : takeF s (BitVec.ofNat 64 n) = z) (w : World) :
    Calls Try.prog 95 #[.agg #[.int .u64 (nv s.a), .int .u64 (nv s.b), .int .u64 (nv s.c), .int .u64 (nv s.d)], .int .u64 n] w fun e w' => e = .returned (.agg #[.int .u64 (nv z.a), .int .u64 (nv z.b), .int .u64 (nv z.c), .int .u64 (nv z.d)]) ∧ Below w.heap.size w w' := by
  have h := refIn_any s (BitVec.ofNat 64 n) w
  rw [nv_lit n hn, hz] at h
  exact h

def sliceLn : Value → Nat
  | .slice _ n _ => n
  | _ => 0

theorem one_lit (k : Int) : ∀ u ∈ (#[Value.int .u8 k]).toList, u.oneCell' = true := by intro u hu; simp at hu; subst hu; rfl
theorem bcs_snoc1 (l : List UInt8) : bcs l ++ (#[Value.int .u8 1]).toList = bcs (l ++ [1]) := by rw [bcs_app]; rfl
theorem bcs_snoc0 (l : List UInt8) (z : Nat) : bcs (l ++ List.replicate z 0) ++ (#[Value.int .u8 0]).toList = bcs (l ++ List.replicate (z + 1) 0) := by
  rw [List.replicate_succ', ← List.append_assoc, bcs_app (l ++ List.replicate z 0)]; rfl

set_option maxRecDepth 100000 in
set_option maxHeartbeats 8000000 in
theorem refBytes_any (s : St) (v : Value) (l : List UInt8) (w : World) (hv : BSl w v l) (hl : l.length ≤ 1000000) (z : St) (hz : bytesF s l = z) :
    Calls Try.prog 94 #[.agg #[.int .u64 (nv s.a), .int .u64 (nv s.b), .int .u64 (nv s.c), .int .u64 (nv s.d)], v] w fun e w' => e = .returned (.agg #[.int .u64 (nv z.a), .int .u64 (nv z.b), .int .u64 (nv z.c), .int .u64 (nv z.d)]) ∧ Below w.heap.size w w' := by
  obtain ⟨ao, cap, rfl, h1, h2, h3⟩ := hv.open_
  obtain ⟨Z, HZ⟩ : ∃ Z, Hid (Z = (7 - l.length % 8)) := ⟨_, rfl⟩
  obtain ⟨M, HM⟩ : ∃ M, Hid (M = l.length / 8 + 1) := ⟨_, rfl⟩
  have hN : l.length + 1 + Z = 8 * M := by rw [HZ.out, HM.out]; omega
  have hZ7 : Z ≤ 7 := by rw [HZ.out]; omega
  obtain ⟨N, HN⟩ : ∃ N, Hid (N = l.length + 1 + Z) := ⟨_, rfl⟩
  have hN1 : l.length + 1 ≤ N := by rw [HN.out]; omega
  have hN2 : N ≤ 1000008 := by rw [HN.out]; omega
  have HNM : Hid (N = 8 * M) := by show _ = _; rw [HN.out]; exact hN
  have HV := Lib.hid hv
  have HNO := Lib.hid h2
  have HC := Lib.hid hv.cells.2.2
  have HL1 : Hid (l.length = l.length + 0) := rfl
  have HFIN : Hid (takeF (wholeF s (l ++ [1] ++ List.replicate Z 0) M) (BitVec.ofNat 64 l.length) = z) := by show _ = _; rw [HM.out, ref_bytes]; exact hz
  clear hv h2 h3 hz hN
  obtain ⟨L, HL⟩ : ∃ L : List UInt8, Hid (L = l ++ [1] ++ List.replicate Z 0) := ⟨l ++ [1] ++ List.replicate Z 0, show _ = _ from rfl⟩
  have HLN : Hid (L.length = N) := by show _ = _; rw [HL.out, HN.out]; simp; omega
  rw [← HL.out] at HFIN
  go_enter Try.func94, Try.ntmps94
  go_wp2_with (first
    | (at_builtin; refine wpList_append_in rfl (.tmp 9) (.tmp 10) 26 rfl ((w.alloc (.cells #[.int .u64 (nv s.a), .int .u64 (nv s.b), .int .u64 (nv s.c), .int .u64 (nv s.d)] 165)).alloc (.cells #[.int .u64 0, .int .u64 0, .int .u64 0, .int .u64 0] 165)) elt_u8 (by (repeat' (first | (with_reducible exact Below.refl _ _) | (with_reducible refine bplus ?_ _ _) | (with_reducible refine balloc ?_ _) | (with_reducible refine Below.drew ?_) | (with_reducible refine bdrewN ?_ _) | (with_reducible refine Below.setCell ?_ (by go_size) _)))) _ _ _ rfl (owns_start _ _ _ _ (by simp)) ao l.length cap (bcs l) rfl (by rw [bcs_len, Nat.mul_one]) HNO.out ?c1 (bcs_one l) ?c3 ?c4 l.length (Nat.zero_add _) (bcs l) (List.nil_append _) (fun ao1 cap1 g1 d1 hown1 _ => ?_))
    | (at_builtin; refine wpList_append_fresh rfl (.tmp 11) (.tmp 12) 26 rfl _ _ _ _ _ elt_u8 _ _ _ rfl hown1 rfl _ _ _ rfl (by first | (simp; done) | (simp; omega) | omega) rfl (one_lit 1) ?c5 ?c6 (l.length + 1) rfl (bcs (l ++ [1])) (bcs_snoc1 l) (fun ao3 cap3 g3 d3 hown3 hn3 => ?_)))
  case c1 => intro ad had j u hj; exact (((HV.out.alloc _).alloc _).alloc _).cells.2.2 ad had j u hj
  case c3 => unfold maxLen; omega
  case c4 => omega
  case c5 => unfold maxLen; omega
  case c6 => omega
  have hrow : Hid (GRow (w.heap.size + 1 + 1) g3 5 1 (.slice ao3 (l.length + 1) cap3) (l.length + 1) (bcs (l ++ [1]))) := Lib.hid (by simpa using hown3)
  clear hown3 hown1 hn3
  go_loopw [5] (fun v wr => ∃ (n : Nat) (g : Array Obj) (d : Nat), l.length + 1 ≤ n ∧ n ≤ N ∧ GRow (w.heap.size + 1 + 1) g 5 1 v n (bcs (l ++ [1] ++ List.replicate (n - (l.length + 1)) 0)) ∧ wr = plus ((w.alloc (.cells #[.int .u64 (nv s.a), .int .u64 (nv s.b), .int .u64 (nv s.c), .int .u64 (nv s.d)] 165)).alloc (.cells #[.int .u64 0, .int .u64 0, .int .u64 0, .int .u64 0] 165)) g d) (fun v _ => N - sliceLn v)
  case atStart => exact ⟨l.length + 1, g3, d3, by omega, hN1, by rw [Nat.sub_self, List.replicate_zero, List.append_nil]; exact hrow.out, rfl⟩
  case round =>
    clear hrow
    obtain ⟨n, g, d, hn1, hn2, hrw, rfl⟩ := hrel
    obtain ⟨ao4, cap4, rfl⟩ := hrw.slice
    have HR := Lib.hid hrw
    clear hrw
    by_cases hlt : n < N
    · have hm : ¬ ((n : Int) % 8 = 0) := by have := HNM.out; have := HN.out; omega
      have b1 : ((n : Int) % 8 == 0) = false := beq_eq_false_iff_ne.2 hm
      have b2 : ((n : Int) % 8 != 0) = true := by simp [bne, b1]
      have HE : Hid (n - (l.length + 1) + 1 = n + 1 - (l.length + 1)) := by show _ = _; omega
      clear hm
      go_wp2_with (at_builtin; refine wpList_append_fresh rfl (.tmp 18) (.tmp 19) 26 rfl _ _ _ _ _ elt_u8 _ _ _ rfl HR.out (by simp) _ _ _ rfl (by first | (simp; done) | (simp; omega) | omega) rfl (one_lit 0) ?c7 ?c8 (n + 1) rfl _ (bcs_snoc0 (l ++ [1]) _) (fun ao5 cap5 g5 d5 hown5 hn5 => ?_))
      case c7 => unfold maxLen; omega
      case c8 => omega
      go_roundw
      case rel => exact ⟨n + 1, g5, d5, by omega, by omega, by rw [← HE.out]; exact hown5, rfl⟩
      case measure => simp [sliceLn]; omega
    · obtain rfl : n = N := by omega
      have hm : (n : Int) % 8 = 0 := by have := HNM.out; omega
      have b1 : ((n : Int) % 8 == 0) = true := beq_iff_eq.2 hm
      have b2 : ((n : Int) % 8 != 0) = false := by simp [bne, b1]
      have HR2 : Hid (GRow (w.heap.size + 1 + 1) g 5 1 (.slice ao4 n cap4) n (bcs L)) := by
        have := HR.out
        rw [show n - (l.length + 1) = Z by have := HN.out; omega, ← HL.out] at this
        exact this
      clear hm HR
      obtain ⟨b, rfl⟩ : ∃ b, ao4 = some ⟨b, 0, none⟩ := by
        rcases HR2.out.2 with ⟨h0, h1⟩ | ⟨j, cap', cur, h0, _⟩
        · omega
        · cases h0; exact ⟨_, rfl⟩
      go_wp2
      go_loopw [6] (fun i wr => ∃ (q k : Nat) (g : Array Obj) (d : Nat), k = 8 * q ∧ q ≤ M ∧ i = .int .i64 k ∧ GRow (w.heap.size + 1 + 1) g 5 1 (.slice (some ⟨b, 0, none⟩) n cap4) n (bcs L) ∧ wr = plus ((w.alloc (.cells #[.int .u64 (nv ((wholeF s L q)).a), .int .u64 (nv ((wholeF s L q)).b), .int .u64 (nv ((wholeF s L q)).c), .int .u64 (nv ((wholeF s L q)).d)] 165)).alloc (.cells #[.int .u64 0, .int .u64 0, .int .u64 0, .int .u64 0] 165)) g d) (fun i _ => n + 8 - (intOf i).toNat)
      case atStart => exact ⟨0, 0, g, d, rfl, by omega, rfl, HR2.out, rfl⟩
      case round =>
        clear HR2
        obtain ⟨q, k, g, d, hk, hq, rfl, hrw, rfl⟩ := hrel
        have hB : w.heap.size + 1 + 1 ≤ b := by
          rcases hrw.2 with ⟨h0, h1⟩ | ⟨j, cap', cur, h0, _⟩
          · cases h0
          · cases h0; omega
        have hcl := hrw.cell (W0 := ((w.alloc (.cells #[.int .u64 (nv ((wholeF s L q)).a), .int .u64 (nv ((wholeF s L q)).b), .int .u64 (nv ((wholeF s L q)).c), .int .u64 (nv ((wholeF s L q)).d)] 165)).alloc (.cells #[.int .u64 0, .int .u64 0, .int .u64 0, .int .u64 0] 165))) (by simp) d
        have hb2 : b < w.heap.size + 1 + 1 + g.size := by have := hcl.2.1; simp at this; omega
        have HRW := Lib.hid hrw
        have HK := Lib.hid hk
        by_cases hlt : q < M
        · have hkn : k + 8 ≤ n := by have := HNM.out; omega
          obtain ⟨t, HT⟩ : ∃ t, Hid (wholeF s L q = t) := ⟨_, rfl⟩
          obtain ⟨x, HX⟩ : ∃ x, Hid (wordAt L q = x) := ⟨_, rfl⟩
          have HNX : Hid (wholeF s L (q + 1) = takeF t x) := by show takeF (wholeF s L q) (wordAt L q) = _; rw [HT.out, HX.out]
          rw [HT.out] at hcl ⊢
          have hcell : ∀ j, j < 8 → (plus ((w.alloc (.cells #[.int .u64 (nv t.a), .int .u64 (nv t.b), .int .u64 (nv t.c), .int .u64 (nv t.d)] 165)).alloc (.cells #[.int .u64 0, .int .u64 0, .int .u64 0, .int .u64 0] 165)) g d).cell? ⟨b, k + j, none⟩ = some (.int .u8 (by8 x j)) := fun j hj => by
            rw [← HX.out, by8_wordAt _ _ _ hj, hk]
            exact hcl.2.2 _ _ (bcs_get L _ (by rw [HLN.out]; omega))
          have c0 := hcell 0 (by omega)
          have c1 := hcell 1 (by omega)
          have c2 := hcell 2 (by omega)
          have c3 := hcell 3 (by omega)
          have c4 := hcell 4 (by omega)
          have c5 := hcell 5 (by omega)
          have c6 := hcell 6 (by omega)
          have c7 := hcell 7 (by omega)
          rw [Nat.add_zero] at c0
          have ht1 : ((k : Int) + 1).toNat = k + 1 := by omega
          have ht2 : ((k : Int) + 2).toNat = k + 2 := by omega
          have ht3 : ((k : Int) + 3).toNat = k + 3 := by omega
          have ht4 : ((k : Int) + 4).toNat = k + 4 := by omega
          have ht5 : ((k : Int) + 5).toNat = k + 5 := by omega
          have ht6 : ((k : Int) + 6).toNat = k + 6 := by omega
          have ht7 : ((k : Int) + 7).toNat = k + 7 := by omega
          have hk0 : (0 : Int) ≤ k := by omega
          have hk8 : (k : Int) + 8 ≤ n := by omega
          have hdk : decide (k < n) = true := decide_eq_true (by omega)
          clear hcell hcl hrw hk
          go_wp2
          go_rounds 9
          go_region_law ((go_simp; first
            | (go_at_call 97; refine (refNum_any x _).mono ?_; rintro e w5 ⟨rfl, hb5⟩; obtain ⟨g5, d5, rfl⟩ := plus_of_below hb5; clear hb5; simp only [])
            | (go_at_call 95; refine (refIn_any t x _).mono ?_; rintro e w6 ⟨rfl, hb6⟩; obtain ⟨g6, d6, rfl⟩ := plus_of_below hb6; clear hb6; simp only [])))
          all_goals
            go_wp2
            go_roundw
            case rel => exact ⟨q + 1, k + 8, _, _, by have := HK.out; omega, by omega, by go_num, (HRW.out.more _).more _, by rw [HNX.out, alloc_plus, plus_plus]⟩
            case measure => simp [intOf]; omega
        · obtain rfl : q = M := by omega
          have hdk : decide (k < n) = false := decide_eq_false (by have := HNM.out; have := HK.out; omega)
          have hkn : n ≤ k := by have := HNM.out; have := HK.out; omega
          obtain ⟨t, HT⟩ : ∃ t, Hid (wholeF s L q = t) := ⟨_, rfl⟩
          rw [HT.out] at HFIN
          rw [HT.out]
          clear hcl hrw hk
          go_wp2_with (go_at_call 95; refine (refIn_to t l.length z (by omega) HFIN.out _).mono ?_; rintro e w7 ⟨rfl, hb7⟩; obtain ⟨g7, d7, rfl⟩ := plus_of_below hb7; clear hb7)
          refine bodyPost_ret (v := .agg #[.int .u64 (nv z.a), .int .u64 (nv z.b), .int .u64 (nv z.c), .int .u64 (nv z.d)]) (by simp [results, Try.results94, go_sem]) rfl ⟨rfl, by (repeat' (first | (with_reducible exact Below.refl _ _) | (with_reducible refine bplus ?_ _ _) | (with_reducible refine balloc ?_ _) | (with_reducible refine Below.drew ?_) | (with_reducible refine bdrewN ?_ _) | (with_reducible refine Below.setCell ?_ (by go_size) _)))⟩

theorem refOut_to (s : St) (z : BitVec 64) (hz : givesF s = z) (w : World) :
    Calls Try.prog 93 #[.agg #[.int .u64 (nv s.a), .int .u64 (nv s.b), .int .u64 (nv s.c), .int .u64 (nv s.d)]] w fun e w' => e = .returned (.agg #[.int .u8 (by8 z 0), .int .u8 (by8 z 1), .int .u8 (by8 z 2), .int .u8 (by8 z 3), .int .u8 (by8 z 4), .int .u8 (by8 z 5), .int .u8 (by8 z 6), .int .u8 (by8 z 7)]) ∧ Below w.heap.size w w' := by
  subst hz; exact refOut_any s w
theorem refIn_st (s z : St) (x : BitVec 64) (hz : takeF s x = z) (w : World) :
    Calls Try.prog 95 #[.agg #[.int .u64 (nv s.a), .int .u64 (nv s.b), .int .u64 (nv s.c), .int .u64 (nv s.d)], .int .u64 (nv x)] w fun e w' => e = .returned (.agg #[.int .u64 (nv z.a), .int .u64 (nv z.b), .int .u64 (nv z.c), .int .u64 (nv z.d)]) ∧ Below w.heap.size w w' := by
  subst hz; exact refIn_any s x w
theorem refBegin_to (n : Nat) (z : St) (hn : n < 18446744073709551616) (hz : beginF (BitVec.ofNat 64 n) = z) (w : World) :
    Calls Try.prog 96 #[.int .u64 n] w fun e w' => e = .returned (.agg #[.int .u64 (nv z.a), .int .u64 (nv z.b), .int .u64 (nv z.c), .int .u64 (nv z.d)]) ∧ Below w.heap.size w w' := by
  subst hz; exact refBegin_any _ _ (nv_lit n hn) w

set_option maxRecDepth 100000 in
set_option maxHeartbeats 1000000 in
theorem refOf_bytes (v : Value) (l : List UInt8) (w : World) (hv : BSl w v l) (hl : l.length ≤ 1000000) (z : BitVec 64) (hz : ofF l = z) :
    Calls Try.prog 105 #[v] w fun e w' => e = .returned (.agg #[.int .u8 (by8 z 0), .int .u8 (by8 z 1), .int .u8 (by8 z 2), .int .u8 (by8 z 3), .int .u8 (by8 z 4), .int .u8 (by8 z 5), .int .u8 (by8 z 6), .int .u8 (by8 z 7)]) ∧ Below w.heap.size w w' := by
  have HV := Lib.hid hv
  obtain ⟨s0, HS0⟩ : ∃ s0, Hid (beginF (BitVec.ofNat 64 1) = s0) := ⟨_, rfl⟩
  obtain ⟨t, HT⟩ : ∃ t, Hid (bytesF s0 l = t) := ⟨_, rfl⟩
  have HZ : Hid (givesF t = z) := by show _ = _; rw [← HT.out, ← HS0.out]; exact hz
  clear hv hz
  go_enter Try.func105, Try.ntmps105
  go_wp2_with (first
    | (go_at_call 96; refine (refBegin_to 1 s0 (by omega) HS0.out _).mono ?_; rintro e w1 ⟨rfl, hb1⟩; obtain ⟨g1, d1, rfl⟩ := plus_of_below hb1; clear hb1)
    | (go_at_call 94; refine (refBytes_any s0 v l _ ((HV.out.alloc _).plus _ _) hl t HT.out).mono ?_; rintro e w2 ⟨rfl, hb2⟩; obtain ⟨g2, d2, rfl⟩ := plus_of_below hb2; clear hb2)
    | (go_at_call 93; refine (refOut_to t z HZ.out _).mono ?_; rintro e w3 ⟨rfl, hb3⟩; obtain ⟨g3, d3, rfl⟩ := plus_of_below hb3; clear hb3))
  refine bodyPost_ret (v := .agg #[.int .u8 (by8 z 0), .int .u8 (by8 z 1), .int .u8 (by8 z 2), .int .u8 (by8 z 3), .int .u8 (by8 z 4), .int .u8 (by8 z 5), .int .u8 (by8 z 6), .int .u8 (by8 z 7)]) (by simp [results, Try.results105, go_sem]) rfl ⟨rfl, by (repeat' (first | (with_reducible exact Below.refl _ _) | (with_reducible refine bplus ?_ _ _) | (with_reducible refine balloc ?_ _) | (with_reducible refine Below.drew ?_) | (with_reducible refine bdrewN ?_ _) | (with_reducible refine Below.setCell ?_ (by go_size) _)))⟩

theorem refBegin_int (n : Nat) (k : Int) (hk : k = n) (z : St) (hn : n < 18446744073709551616) (hz : beginF (BitVec.ofNat 64 n) = z) (w : World) :
    Calls Try.prog 96 #[.int .u64 k] w fun e w' => e = .returned (.agg #[.int .u64 (nv z.a), .int .u64 (nv z.b), .int .u64 (nv z.c), .int .u64 (nv z.d)]) ∧ Below w.heap.size w w' := by
  subst hk; exact refBegin_to n z hn hz w
/-- A conversion, as an operation. -/
theorem run_conv {P : Program} {o : Oper} {a : Act} {w w' : World} {src dst : TypeId} {x : Operand} {v u : Value} (ho : o.op = .convert src dst x) (h : (convert src dst v).run P w = .ok u w') (hv : a.eval x = v) : (execOp a.eval o).run P w = .ok (.value u) w' := by
  simp [execOp, ho, hv, h, Result.andThen]

set_option maxRecDepth 100000 in
set_option maxHeartbeats 1000000 in
theorem refWord_bytes (x : BitVec 64) (tx : ByteArray) (w : World) (hl : tx.size ≤ 1000000) (z : BitVec 64) (hz : wordF x (strL tx) = z) :
    Calls Try.prog 62 #[.agg #[.int .u8 (by8 x 0), .int .u8 (by8 x 1), .int .u8 (by8 x 2), .int .u8 (by8 x 3), .int .u8 (by8 x 4), .int .u8 (by8 x 5), .int .u8 (by8 x 6), .int .u8 (by8 x 7)], .string tx] w fun e w' => e = .returned (.agg #[.int .u8 (by8 z 0), .int .u8 (by8 z 1), .int .u8 (by8 z 2), .int .u8 (by8 z 3), .int .u8 (by8 z 4), .int .u8 (by8 z 5), .int .u8 (by8 z 6), .int .u8 (by8 z 7)]) ∧ Below w.heap.size w w' := by
  obtain ⟨s0, HS0⟩ : ∃ s0, Hid (beginF (BitVec.ofNat 64 4) = s0) := ⟨_, rfl⟩
  obtain ⟨u, HU⟩ : ∃ u, Hid (takeF s0 x = u) := ⟨_, rfl⟩
  obtain ⟨t, HT⟩ : ∃ t, Hid (bytesF u (strL tx) = t) := ⟨_, rfl⟩
  have HZ : Hid (givesF t = z) := by show _ = _; rw [← HT.out, ← HU.out, ← HS0.out]; exact hz
  have HL : Hid ((strL tx).length ≤ 1000000) := by show _ ≤ _; rw [strL_len]; exact hl
  clear hz
  have hex := fun W : World => run_bytes (P := Try.prog) W 9 26 5 tx Try.underlying9 Try.underlying26 Try.underlying5
  have HEX := Lib.hid hex
  clear hex
  have H44 : Hid ((4 : Int) = ((4 : Nat) : Int)) := rfl
  have l4 : 4 < 18446744073709551616 := by omega
  go_enter Try.func62, Try.ntmps62
  go_wp2
  refine wp_region_rt 8 1 (by kernel_rfl) (by kernel_rfl) (by kernel_rfl) (by kernel_rfl) ?_
  simp only [List.take_succ_cons, List.take_zero]
  repeat (first
    | (refine B_skip ?_ ?_; (· rfl); (try simp only [Act.put, List.setIfInBounds_toArray, List.set_cons_zero, List.set_cons_succ]))
    | (refine B_move rfl ?_ ?_; (· rfl); (try simp only [Act.eval, Act.put, Array.getD_eq_getD_getElem?, List.getElem?_toArray, List.getElem?_cons_succ, List.getElem?_cons_zero, Option.getD_some, List.setIfInBounds_toArray, List.set_cons_zero, List.set_cons_succ]))
    | (refine B_plain ?_ ?_; (· rfl); intro K hK; go_big_quiet_op; with_reducible refine hK _ ?_; clear hK K)
    | (refine B_callX (v := ?_) (f := 96) rfl (by kernel_rfl) ?_ (fun xq => ?_) ?_; rotate_left; (· rfl); (· ((simp only [List.map_toArray, List.map_cons, List.map_nil, Act.eval, Array.getD_eq_getD_getElem?, List.getElem?_toArray, List.getElem?_cons_succ, List.getElem?_cons_zero, Option.getD_some]); with_reducible apply retB; with_reducible exact (refBegin_int 4 4 H44.out s0 l4 HS0.out _))); (try simp only [Act.put, List.setIfInBounds_toArray, List.set_cons_zero, List.set_cons_succ]))
    | (refine B_callX (v := ?_) (f := 97) rfl (by kernel_rfl) ?_ (fun xq => ?_) ?_; rotate_left; (· rfl); (· ((simp only [List.map_toArray, List.map_cons, List.map_nil, Act.eval, Array.getD_eq_getD_getElem?, List.getElem?_toArray, List.getElem?_cons_succ, List.getElem?_cons_zero, Option.getD_some]); with_reducible apply retB; with_reducible exact (refNum_any x _))); (try simp only [Act.put, List.setIfInBounds_toArray, List.set_cons_zero, List.set_cons_succ]))
    | (refine B_callX (v := ?_) (f := 95) rfl (by kernel_rfl) ?_ (fun xq => ?_) ?_; rotate_left; (· rfl); (· ((simp only [List.map_toArray, List.map_cons, List.map_nil, Act.eval, Array.getD_eq_getD_getElem?, List.getElem?_toArray, List.getElem?_cons_succ, List.getElem?_cons_zero, Option.getD_some]); with_reducible apply retB; with_reducible exact (refIn_st s0 u x HU.out _))); (try simp only [Act.put, List.setIfInBounds_toArray, List.set_cons_zero, List.set_cons_succ]))
    | (refine B_make (fun v w => BSl w v (strL tx)) (stays_bsl _) rfl ?_ (fun xq => ?_) ?_; (· rfl); (· (obtain ⟨u1, g1, d1, e1, b1, -⟩ := HEX.out (plus _ xq.g xq.d); exact ⟨u1, _, run_conv rfl e1 rfl, ⟨⟨g1, d1⟩, rfl⟩, b1⟩)))
    | (refine B_callRX (v := ?_) (f := 94) rfl (by kernel_rfl) ?_ (fun xq vs hvs => ?_) ?_; rotate_left; (· rfl); (· (obtain ⟨a1, _, rfl, e1, a2, _, rfl, e2, e3⟩ := hvs; obtain rfl : a1 = .agg #[.int .u64 (nv u.a), .int .u64 (nv u.b), .int .u64 (nv u.c), .int .u64 (nv u.d)] := e1; cases e3; (with_reducible apply retB); exact refBytes_any u a2 (strL tx) _ e2 HL.out t HT.out)); (try simp only [Act.put, List.setIfInBounds_toArray, List.set_cons_zero, List.set_cons_succ]))
    | (refine B_callX (v := ?_) (f := 93) rfl (by kernel_rfl) ?_ (fun xq => ?_) ?_; rotate_left; (· rfl); (· ((simp only [List.map_toArray, List.map_cons, List.map_nil, Act.eval, Array.getD_eq_getD_getElem?, List.getElem?_toArray, List.getElem?_cons_succ, List.getElem?_cons_zero, Option.getD_some]); with_reducible apply retB; with_reducible exact (refOut_to t z HZ.out _))); (try simp only [Act.put, List.setIfInBounds_toArray, List.set_cons_zero, List.set_cons_succ])))
  refine B_nil ?_ rfl ?_ ?_
  · kernel_rfl
  · rfl
  rintro _ ⟨⟨g1, d1⟩, rfl⟩
  simp only [fin, Act.put, List.setIfInBounds_toArray, List.set_cons_zero, List.set_cons_succ]
  intros
  refine last_one (k := 8) (by kernel_rfl) (by kernel_rfl) (by rfl) ?_ ?_
  · rfl
  intro K hK
  go_simp
  refine hK _ _ ?_
  clear hK K
  all_goals
    go_wp2
    refine bodyPost_ret (v := .agg #[.int .u8 (by8 z 0), .int .u8 (by8 z 1), .int .u8 (by8 z 2), .int .u8 (by8 z 3), .int .u8 (by8 z 4), .int .u8 (by8 z 5), .int .u8 (by8 z 6), .int .u8 (by8 z 7)]) (by simp [results, Try.results62, go_sem]) rfl ⟨rfl, by (repeat' (first | (with_reducible exact Below.refl _ _) | (with_reducible refine bplus ?_ _ _) | (with_reducible refine balloc ?_ _) | (with_reducible refine Below.drew ?_) | (with_reducible refine bdrewN ?_ _) | (with_reducible refine Below.setCell ?_ (by go_size) _)))⟩

end Go.Proofs.Ytghaiplhakeahaa
