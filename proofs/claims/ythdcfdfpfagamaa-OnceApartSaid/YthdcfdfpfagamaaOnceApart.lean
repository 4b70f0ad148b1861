/- The law OnceApart: its walk. -/
import Derived.Test.YthdcfdfpfagamaaK5
namespace Go.Proofs.Ythdcfdfpfagamaa
set_option linter.unusedSimpArgs false
set_option linter.unusedVariables false
open Go.RowKit

/-- A row that isn't empty, opened. -/
theorem Row.out1 {e : TypeId} {sz n : Nat} {v : Value} {xs : List Value} {B L : List Blk} {w w0 : World} (h : Row e sz v n xs B) (hn : 0 < n) (M : Mem w w0 (B ++ L)) (hB : New w0 B) : ∀ {ao : Option Addr} {cap : Nat}, v = .slice ao n cap → ∃ r cur, ao = some ⟨r, 0, none⟩ ∧ w0.heap.size ≤ r ∧ HasBlk w r e cur ∧ n ≤ cap ∧ cur.size = cap * sz ∧ cur.toList.take (n * sz) = xs := by
  intro ao cap hv
  cases h with
  | void => omega
  | one r n cap cur h1 h2 h3 =>
    cases hv
    exact ⟨r, cur, rfl, hB ⟨r, e, cur⟩ (by simp), M.has ⟨r, e, cur⟩ (by simp), h1, h3, rfl⟩
/-- A block whose first cells are bytes, as a slice of bytes. -/
theorem blk_bsl {w : World} {r n cap : Nat} {t : TypeId} {cur : Array Value} {l : List UInt8} (h : HasBlk w r t cur) (hc : cur.toList.take n = bcs l) (hn : n = l.length) (hcap : n ≤ cap) : BSl w (.slice (some ⟨r, 0, none⟩) n cap) l := by
  subst hn
  refine ⟨_, cap, rfl, ⟨hcap, fun h => by cases h⟩, .inr ⟨r, 0, rfl, h.lt, fun i hi => ?_⟩⟩
  rw [h.cell, Nat.zero_add]
  have h1 := bcs_get l i hi
  rw [← hc, List.getElem?_take, if_pos hi] at h1
  simpa using h1

set_option maxRecDepth 100000 in
set_option maxHeartbeats 2000000 in
theorem sign_row (s m : BitVec 64) (w : World) :
    Calls Try.prog 23 #[.agg #[.int .u8 (by8 s 0), .int .u8 (by8 s 1), .int .u8 (by8 s 2), .int .u8 (by8 s 3), .int .u8 (by8 s 4), .int .u8 (by8 s 5), .int .u8 (by8 s 6), .int .u8 (by8 s 7)], .agg #[.int .u8 (by8 m 0), .int .u8 (by8 m 1), .int .u8 (by8 m 2), .int .u8 (by8 m 3), .int .u8 (by8 m 4), .int .u8 (by8 m 5), .int .u8 (by8 m 6), .int .u8 (by8 m 7)]] w fun e w' => ∃ r cap cur, e = .returned (.slice (some ⟨r, 0, none⟩) 144 cap) ∧ Below w.heap.size w w' ∧ w.heap.size ≤ r ∧ HasBlk w' r 5 cur ∧ 144 ≤ cap ∧ cur.size = cap ∧ cur.toList.take 144 = bcs (signB s m) := by
  obtain ⟨N, hN, hmk⟩ : ∃ N : Array Value, N.size = 144 ∧ ∀ W : World, (Instr.makeSlice 28 (.int .i64 0) (.int .i64 144)).run Try.prog W = .ok (.slice (some ⟨W.heap.size, 0, none⟩) 0 144) (W.alloc (.cells N 5)) := by
    obtain ⟨i, z, ht, hi, hz, hsz, hby, hzs, -⟩ := elt_u8
    refine ⟨madeCells z.cells (144 * i.size), by rw [size_madeCells, hsz], fun W => ?_⟩
    exact run_make (P := Try.prog) (w := W) 28 5 i z ht hi hz .i64 .i64 0 144 (by omega) (by omega) (by rw [hby]; omega) (by omega)
  have HN := Lib.hid hN
  clear hN
  go_enter Try.func23, Try.ntmps23
  go_wp2_with (go_at_call 25; refine (reach_any m _).mono ?_; rintro e w1 ⟨rfl, hb1⟩; obtain ⟨g1, d1, rfl⟩ := plus_of_below hb1; clear hb1)
  clear hmk
  have M0 := ((((Mem.start w).key #[.int .u8 (by8 s 0), .int .u8 (by8 s 1), .int .u8 (by8 s 2), .int .u8 (by8 s 3), .int .u8 (by8 s 4), .int .u8 (by8 s 5), .int .u8 (by8 s 6), .int .u8 (by8 s 7)] 24 w.heap.size rfl).alloc (.cells #[.int .u8 (by8 m 0), .int .u8 (by8 m 1), .int .u8 (by8 m 2), .int .u8 (by8 m 3), .int .u8 (by8 m 4), .int .u8 (by8 m 5), .int .u8 (by8 m 6), .int .u8 (by8 m 7)] 24)).key N 5 (w.heap.size + 1 + 1) (by simp)).plus g1 d1
  go_loopw [5, 12] (fun v i wr => ∃ (k cap : Nat) (ao : Option Addr) (B : List Blk), k ≤ 18 ∧ v = .slice ao (8 * k) cap ∧ i = .int .i64 k ∧ Row 5 1 (.slice ao (8 * k) cap) (8 * k) (dall (signD s m k)) B ∧ New w B ∧ Mem wr w (B ++ [⟨w.heap.size, 24, #[.int .u8 (by8 s 0), .int .u8 (by8 s 1), .int .u8 (by8 s 2), .int .u8 (by8 s 3), .int .u8 (by8 s 4), .int .u8 (by8 s 5), .int .u8 (by8 s 6), .int .u8 (by8 s 7)]⟩])) (fun _ i _ => 18 - (intOf i).toNat)
  case atStart =>
    refine ⟨0, 144, _, [⟨w.heap.size + 1 + 1, 5, N⟩], by omega, rfl, rfl, ?_, New.cons (by simp; omega) (New.nil _), M0⟩
    have := Row.one (e := 5) (sz := 1) (w.heap.size + 1 + 1) 0 144 N (by omega) (by unfold maxLen; omega) (by rw [HN.out])
    simpa [signD, dall] using this
  case round =>
    clear M0
    obtain ⟨k, cap, ao, B, hk, rfl, rfl, R, hB, M⟩ := hrel
    have HM := Lib.hid M
    have HR := Lib.hid R
    by_cases hlt : k < 18
    · obtain ⟨y, HY⟩ : ∃ y, Hid (startF s k = y) := ⟨_, rfl⟩
      obtain ⟨x, HX⟩ : ∃ x, Hid (chainF y (dgt m k).toNat = x) := ⟨_, rfl⟩
      have HS : Hid (dall (signD s m k) ++ dcs x = dall (signD s m (k + 1))) := by
        show _ = _
        rw [signD_succ, dall_app, ← HX.out, ← HY.out, dall_one]
      have q := M.cell0
      have lq := M.lt0
      have db := dgt_bd m k
      have qd := dgA_get m k hlt
      have hc1 : k < 1000 := by omega
      have HK : Hid (dgt m k = (((dgt m k).toNat : Nat) : Int)) := by show _ = _; omega
      have h10 : Hid ((dgt m k).toNat ≤ 1048576) := by show _ ≤ _; omega
      clear M R
      go_wp2_with (first
        | (go_at_call 47; refine (start_to s k hc1 y HY.out _).mono ?_; rintro e w2 ⟨rfl, hb2⟩; obtain ⟨g2, d2, rfl⟩ := plus_of_below hb2; clear hb2)
        | (go_at_call 33; refine (chain_int y x _ _ HK.out h10.out HX.out _).mono ?_; rintro e w3 ⟨rfl, hb3⟩; obtain ⟨g3, d3, rfl⟩ := plus_of_below hb3; clear hb3)
        | (at_builtin; refine wpList_append_new rfl (.tmp 21) (.tmp 22) 28 rfl elt_u8 (HM.out.plus _ _) hB _ _ _ (by rfl) HR.out (dcs x).toArray _ _ _ _ (by rfl) (by simp) (by rfl) (dcs_one x) ?c1 ?c2 (8 * (k + 1)) (by omega) _ HS.out (fun ao' cap' B' w' R' M' hB' => ?_)))
      case c1 => unfold maxLen; omega
      case c2 => omega
      go_roundw
      case rel => exact ⟨k + 1, cap', ao', B', by omega, rfl, by go_num, R', hB', M'⟩
      case measure => simp [intOf]; omega
    · obtain rfl : k = 18 := by omega
      have hlen : (signB s m).length = 144 := signB_len _ _
      have R2 : Row 5 1 (.slice ao (8 * 18) cap) (8 * 18) (bcs (signB s m)) B := by rw [signB, bcs_bysL]; exact R
      have HB := Lib.hid (M.below (hB.app (New.cons (by simp) (New.nil _))))
      obtain ⟨r, cur, rfl, hr, hM, h1, h3, h4⟩ := R2.out1 (by omega) M hB rfl
      have H1 := Lib.hid hM
      have H3 : Hid (cur.size = cap) := by show _ = _; omega
      have H4 := Lib.hid h4
      have h1' : 144 ≤ cap := by omega
      clear M R R2 hM h3 h4 hlen h1
      go_wp2
      go_ret
      exact ⟨r, cap, cur, rfl, HB.out, hr, H1.out, h1', H3.out, H4.out⟩

set_option maxRecDepth 100000 in
set_option maxHeartbeats 4000000 in
theorem onceApart_any (s m : BitVec 64) (c : Int) (w : World) :
    Calls Try.prog 7 #[.agg #[.int .u8 (by8 s 0), .int .u8 (by8 s 1), .int .u8 (by8 s 2), .int .u8 (by8 s 3), .int .u8 (by8 s 4), .int .u8 (by8 s 5), .int .u8 (by8 s 6), .int .u8 (by8 s 7)], .agg #[.int .u8 (by8 m 0), .int .u8 (by8 m 1), .int .u8 (by8 m 2), .int .u8 (by8 m 3), .int .u8 (by8 m 4), .int .u8 (by8 m 5), .int .u8 (by8 m 6), .int .u8 (by8 m 7)], .int .i64 c] w fun e w' => e = .returned (.bool true) ∧ Below w.heap.size w w' := by
  obtain ⟨p, HP⟩ : ∃ p, Hid (publicF s = p) := ⟨_, rfl⟩
  obtain ⟨l, HLS⟩ : ∃ l, Hid (signB s m = l) := ⟨_, rfl⟩
  have HL : Hid (l.length = 144) := by show _ = _; rw [← HLS.out]; exact signB_len _ _
  have HT : Hid (toldF m l = p) := by show _ = _; rw [← HLS.out, told_sign, HP.out]
  have HQ : Hid ((p == p) = true) := by show _ = _; simp
  have S0 := Lib.hid (fun W => HLS.out ▸ sign_row s m W)
  have HL6 : Hid (l.length ≤ 1000000) := by show _ ≤ _; have := HL.out; omega
  go_enter Try.func7, Try.ntmps7
  go_wp2_with fail
  refine (S0.out _).mono ?_
  rintro e w1 ⟨r, cap, cur, rfl, hb1, hr, hblk, hcap, hcs, htk⟩
  have hr' : w.heap.size ≤ r := by simp at hr; omega
  have M1 := Lib.hid ((((Mem.start w).key #[.int .u8 (by8 s 0), .int .u8 (by8 s 1), .int .u8 (by8 s 2), .int .u8 (by8 s 3), .int .u8 (by8 s 4), .int .u8 (by8 s 5), .int .u8 (by8 s 6), .int .u8 (by8 s 7)] 22 w.heap.size rfl).key #[.int .u8 (by8 m 0), .int .u8 (by8 m 1), .int .u8 (by8 m 2), .int .u8 (by8 m 3), .int .u8 (by8 m 4), .int .u8 (by8 m 5), .int .u8 (by8 m 6), .int .u8 (by8 m 7)] 22 (w.heap.size + 1) (by simp)).found (Ext.of_below hb1) hr hblk)
  have HC := Lib.hid hcs
  have HK := Lib.hid htk
  have HBK := Lib.hid hblk
  have hap := M1.out.apart
  simp only [List.pairwise_cons, List.mem_cons, List.not_mem_nil, or_false, forall_eq_or_imp, forall_eq] at hap
  have n1 : ¬ r = w.heap.size + 1 := hap.1.1
  have n2 : ¬ r = w.heap.size := hap.1.2
  have n3 : ¬ w.heap.size + 1 = r := fun e => n1 e.symm
  have n4 : ¬ w.heap.size = r := fun e => n2 e.symm
  clear hap
  clear hb1 hblk hcs htk hr
  have HS1 : Hid (BSl w1 (.slice (some ⟨r, 0, none⟩) 144 cap) l) := blk_bsl HBK.out HK.out HL.out.symm hcap
  obtain ⟨i, hidx, hi⟩ : ∃ i : Nat, wrap64 ((IntKind.u64.wrap c).tmod 144) = (i : Int) ∧ i < 144 := by
    have h0 : 0 ≤ IntKind.u64.wrap c := by rw [IntKind.wrap_u64]; omega
    have h1 := Int.tmod_nonneg (144 : Int) h0
    have h2 := Int.tmod_lt_of_pos (IntKind.u64.wrap c) (show (0 : Int) < 144 by omega)
    exact ⟨((IntKind.u64.wrap c).tmod 144).toNat, by unfold wrap64; omega, by omega⟩
  have HCI : Hid (cur[i]? = some (.int .u8 ((l.getD i 0).toNat : Int))) := by
    have h1 := bcs_get l i (by rw [HL.out]; exact hi)
    rw [← HK.out, List.getElem?_take, if_pos hi] at h1
    show cur[i]? = _
    simpa using h1
  go_wp2_with (first
    | (at_builtin; (refine wpList_append_row rfl (.tmp 17) (.tmp 18) 28 rfl elt_u8 (B := [⟨w1.heap.size, 5, #[]⟩]) (w0 := w) (M1.out.key #[] 5 w1.heap.size rfl) (New.cons M1.out.size (New.nil _)) _ _ _ (by rfl) (Row.empty _ _ _) _ _ _ (bcs l) (by rfl) (by rw [bcs_len, HL.out]) (by simp) (HS1.out.alloc _).cells.2.2 (bcs_one l) (by unfold maxLen; omega) (by omega) 144 (by omega) _ (List.nil_append _) (fun ao5 cap5 B5 w5 R5 M5 hB5 => ?_)); (have HM5 := Lib.hid M5); (have HR5 := Lib.hid R5); (have HS5 : Hid (BSl w5 (.slice (some ⟨r, 0, none⟩) 144 cap) l) := blk_bsl (show HasBlk w5 r 5 cur from M5.blk0) HK.out HL.out.symm hcap); (have HW5 : Hid (BSl w5 (.slice ao5 144 cap5) l) := R5.bsl M5); (have cm := M5.cell1); (have cs := M5.cell2); (have fr := M5.frozen0); (have lr := M5.lt0); (have lm := M5.lt1); (have ls := M5.lt2); (have ci : w5.cell? ⟨r, i, none⟩ = some (.int .u8 ((l.getD i 0).toNat : Int)) := by rw [M5.cell0]; exact HCI.out); (clear M5 R5))
    | (go_at_call 20; refine (public_to s p HP.out _).mono ?_; rintro e w6 ⟨rfl, hb6⟩; obtain ⟨g6, d6, rfl⟩ := plus_of_below hb6; clear hb6))
  have HS60 : Hid (∀ o g d, BSl ((plus w5 g d).alloc o) (.slice (some ⟨r, 0, none⟩) 144 cap) l) := fun o g d => (HS5.out.plus _ _).alloc _
  have HS6 : Hid (∀ o g d g' d', BSl (plus ((plus w5 g d).alloc o) g' d') (.slice (some ⟨r, 0, none⟩) 144 cap) l) := fun o g d g' d' => ((HS5.out.plus _ _).alloc _).plus _ _
  have HW6 : Hid (∀ o g d g' d', BSl (plus ((plus w5 g d).alloc o) g' d') (.slice ao5 144 cap5) l) := fun o g d g' d' => ((HW5.out.plus _ _).alloc _).plus _ _
  have HW7 : Hid (∀ u o g d g' d', BSl (plus ((plus (w5.setCell ⟨r, i, none⟩ u) g d).alloc o) g' d') (.slice ao5 144 cap5) l) := fun u o g d g' d' => (((HR5.out.bsl (HM5.out.set0 i u)).plus _ _).alloc _).plus _ _
  have HB7 : Hid (∀ u, Below w.heap.size w (w5.setCell ⟨r, i, none⟩ u)) := fun u => (HM5.out.set0 i u).below (hB5.app (New.cons hr' (New.cons (by simp) (New.cons (by simp) (New.nil _)))))
  refine (verify_yes p m _ l HL.out _ (HS60.out _ _ _) p HT.out true HQ.out).mono ?_
  rintro e w7 ⟨rfl, hb7⟩; obtain ⟨g7, d7, rfl⟩ := plus_of_below hb7; clear hb7
  go_wp2_with fail
  refine (told_yes m _ l HL.out _ (HS6.out _ _ _ _ _) p HT.out).mono ?_
  rintro e w8 ⟨rfl, hb8⟩; obtain ⟨g8, d8, rfl⟩ := plus_of_below hb8; clear hb8
  go_wp2_with fail
  refine (same01_yes _ _ l _ (HS6.out _ _ _ _ _) (HW6.out _ _ _ _ _) HL6.out).mono ?_
  rintro e w9 ⟨rfl, hb9⟩; obtain ⟨g9, d9, rfl⟩ := plus_of_below hb9; clear hb9
  go_wp2_with fail
  refine (S0.out _).mono ?_
  rintro e w10 ⟨r2, cap2, cur2, rfl, hb10, -, hblk2, hcap2, -, htk2⟩
  have hv10 := blk_bsl hblk2 htk2 HL.out.symm hcap2
  obtain ⟨g10, d10, rfl⟩ := plus_of_below hb10
  rw [plus_plus] at hv10
  have HT10 := Lib.hid hv10
  clear hb10 hblk2 htk2 hv10
  go_wp2_with fail
  refine (known05_any _).mono ?_
  rintro e w11 ⟨rfl, hb11⟩; obtain ⟨g11, d11, rfl⟩ := plus_of_below hb11; clear hb11
  go_wp2_with fail
  refine (same01_yes _ _ l _ (by have := HT10.out.plus g11 d11; rw [plus_plus] at this; simpa [Array.append_assoc] using this) (HW7.out _ _ _ _ _ _) HL6.out).mono ?_
  rintro e w12 ⟨rfl, hb12⟩; obtain ⟨g12, d12, rfl⟩ := plus_of_below hb12; clear hb12
  go_wp2_with fail
  refine (verify_yes p m _ l HL.out _ (by have := HT10.out.plus (g11 ++ g12) d12; rw [plus_plus] at this; simpa [Array.append_assoc] using this) p HT.out true HQ.out).mono ?_
  rintro e w13 ⟨rfl, hb13⟩; obtain ⟨g13, d13, rfl⟩ := plus_of_below hb13; clear hb13
  go_wp2
  go_ret
  exact ⟨rfl, by (repeat' (first | (with_reducible exact HB7.out _) | (with_reducible refine bplus ?_ _ _) | (with_reducible refine balloc ?_ _)))⟩

end Go.Proofs.Ythdcfdfpfagamaa
