/- The law GuardClones: its walk. -/
import Derived.Test.YtghaiplhakeahaaGh
namespace Go.Proofs.Ytghaiplhakeahaa
set_option linter.unusedSimpArgs false
set_option linter.unusedVariables false
open Go.RowKit

theorem rg_one (R : RS) (v : Value) (hv : v.oneCell' = true) : ∀ u ∈ (#[.int .i64 R.towers, .int .i64 R.need, .int .i64 R.newest, .string ⟨R.claim.toArray⟩, v, .bool R.sl, .int .i64 R.fr, .int .i64 R.to] : Array Value).toList, u.oneCell' = true := by
  intro u hu
  simp only [List.mem_cons, List.not_mem_nil, or_false] at hu
  rcases hu with rfl | rfl | rfl | rfl | rfl | rfl | rfl | rfl <;> first | rfl | exact hv
theorem Mem.of_has {w : World} {B : List Blk} (hp : B.Pairwise (fun x y => x.no ≠ y.no)) (h : ∀ x ∈ B, HasBlk w x.no x.ty x.cs) : Mem w w B := ⟨rfl, rfl, rfl, Nat.le_refl _, fun _ _ _ => rfl, hp, h⟩
theorem Gu.row {w w' w0 : World} {C X : List Blk} {p : Nat} {G : GS} {e : TypeId} {sz n : Nat} {v : Value} {xs : List Value} {B : List Blk} (h : Gu w w0 C X p G) (hb : Below w.heap.size w w') (R : Row e sz v n xs B) (hB : ∀ x ∈ B, w.heap.size ≤ x.no ∧ HasBlk w' x.no x.ty x.cs) : Gu w' w0 (B ++ C) X p G := by
  obtain ⟨bv, O, m⟩ := h
  exact ⟨bv, (O.found (Ext.of_below hb) R.apart hB).perm (perm_cnt fun x => by simp only [cnt_append, cnt_cons, cnt_nil] <;> omega), m⟩
theorem Row.blk {e : TypeId} {sz r n m cap : Nat} {xs : List Value} {B : List Blk} (h : Row e sz (.slice (some ⟨r, 0, none⟩) n cap) m xs B) : ∃ cur, B = [⟨r, e, cur⟩] := by
  cases h
  exact ⟨_, rfl⟩
theorem Msg.slice2 {w : World} {L : List Blk} {v : Value} {m : List UInt8} (h : Msg w L v m) : ∀ ao cap, v = .slice ao m.length cap → m.length ≤ cap := by
  intro ao cap e
  obtain ⟨_, ao', cap', e', h1, _⟩ := h
  rw [e] at e'
  cases e'
  exact h1.1
set_option maxRecDepth 100000 in
set_option maxHeartbeats 8000000 in
theorem guardClones_any (x y : Int) (v1 v2 : Value) (m1 m2 : Nat) (F1 F2 : Nat → OpG) (w : World) (hm1 : m1 ≤ maxLen) (hm2 : m2 ≤ maxLen) (hv1 : Rws w v1 m1 6 (fun i => (F1 i).cells)) (hv2 : Rws w v2 m2 6 (fun i => (F2 i).cells)) (hF1 : ∀ i, i < m1 → Msg w [] (F1 i).v (F1 i).l) (hF2 : ∀ i, i < m2 → Msg w [] (F2 i).v (F2 i).l) :
    Calls Try.prog 11 #[.agg #[.int .i64 x, .int .i64 y], v1, v2] w fun e w' => e = .returned (.bool true) ∧ Below w.heap.size w w' := by
  obtain ⟨ao1, cap1, rfl, hcap1, hnil1⟩ := hv1.slice
  obtain ⟨ao2, cap2, rfl, hcap2, hnil2⟩ := hv2.slice
  have HV1 := Lib.hid hv1
  have HV2 := Lib.hid hv2
  have HF1 := Lib.hid hF1
  have HF2 := Lib.hid hF2
  have hml1 : m1 ≤ 9223372036854775807 := by unfold maxLen at hm1; omega
  have hml2 : m2 ≤ 9223372036854775807 := by unfold maxLen at hm2; omega
  obtain ⟨N, HN⟩ : ∃ N, Hid (1 + cutN x 16 = N) := ⟨_, rfl⟩
  obtain ⟨K, HK⟩ : ∃ K, Hid (1 + cutN y N = K) := ⟨_, rfl⟩
  have hN2 : N ≤ 16 := by rw [← HN.out]; have : cutN x 16 < 16 := Nat.mod_lt _ (by omega); omega
  have HS := Lib.hid ((Ow.start w).alloc (.cells #[.int .i64 x, .int .i64 y] 57))
  clear hv1 hv2 hF1 hF2 hm1 hm2
  go_enter Try.func11, Try.ntmps11
  go_wp2_with fail
  refine (begin_to x y _ w [] HS.out N K HN.out HK.out).mono ?_
  rintro e w1 ⟨p, hv, rfl, NB, O1, Rw1⟩
  obtain ⟨ah0, ch0, rfl⟩ := Rw1.slice
  have h1 : Gu w1 w [] NB p (newG nonceX N K) := ⟨.slice none 0 0, O1.perm (perm_cnt fun x => by simp only [cnt_append, cnt_cons, cnt_nil] <;> omega), (show Msg w NB (.slice none 0 0) (newG nonceX N K).box from Sl.nil w NB)⟩
  have HS0 := Lib.hid (Rw1.sl w)
  have H2 := Lib.hid (h1.park (cs := #[.int .i64 N, .int .i64 K, .int .i64 (-1), .string ByteArray.empty, .slice ah0 N ch0, .bool false, .int .i64 0, .int .i64 0]) (t := 61) (b := w1.heap.size) rfl)
  clear O1 Rw1 h1 HS
  go_wp2_with fail
  refine (told_to _).mono ?_
  rintro e w2 ⟨rfl, hb2⟩
  have H3 := Lib.hid (H2.out.of_below hb2)
  clear hb2 H2
  obtain ⟨b8, hb8⟩ : ∃ b, b = w1.heap.size := ⟨_, rfl⟩
  rw [← hb8] at H3
  simp only [← hb8]
  clear hb8
  go_wp2_with fail
  go_loopw [9] (fun vi wr => ∃ (k : Nat) (G : GS) (R : RS) (ah : Option Addr) (ch : Nat) (X : List Blk), vi = .int .i64 k ∧ k ≤ m1 ∧ k ≤ 30 ∧ Gu wr w [⟨b8, 61, #[.int .i64 R.towers, .int .i64 R.need, .int .i64 R.newest, .string ⟨R.claim.toArray⟩, .slice ah R.towers ch, .bool R.sl, .int .i64 R.fr, .int .i64 R.to]⟩] X p G ∧ Sl w X (.slice ah R.towers ch) R.towers (ics R.has) ∧ GR G R) (fun i _ => m1 - (intOf i).toNat)
  case atStart => exact ⟨0, newG nonceX N K, newR N K, ah0, ch0, NB, rfl, by omega, by omega, H3.out, HS0.out, GR.new N K hN2⟩
  case round =>
    obtain ⟨k, G, R, ah, ch, X, rfl, hk, hk30, g5, sl5, gr5⟩ := hrel
    have HG5 := Lib.hid g5
    have HSl5 := Lib.hid sl5
    have HGR5 := Lib.hid gr5
    clear g5 sl5 gr5
    by_cases hgo : k < m1 ∧ k < 30
    · obtain ⟨hlt, hlt30⟩ := hgo
      obtain ⟨Y, O, hY, -⟩ := HG5.out.ow
      obtain ⟨r, o, rfl, hr, hc⟩ := HV1.out.at_ O k hlt
      have ok := HF1.out k hlt
      obtain ⟨⟨kd, wh, on, om, ob, ol, ov⟩, HFk⟩ : ∃ y, Hid (F1 k = y) := ⟨_, rfl⟩
      rw [HFk.out] at ok
      obtain ⟨ac, cc, e1⟩ := ok.slice
      have hcc := ok.slice2
      simp only at e1
      subst e1
      have hcc : ol.length ≤ cc := hcc _ _ rfl
      have HOK := Lib.hid ok
      clear hc ok O hY
      go_wp2_with fail
      refine wp_region_ov (fun L (x : GS × RS × Value) => [(L 0, 37, ptr p), (L 1, 38, .agg #[.int .i64 R.towers, .int .i64 R.need, .int .i64 R.newest, .string ⟨R.claim.toArray⟩, .slice ah R.towers ch, .bool R.sl, .int .i64 R.fr, .int .i64 R.to]), (L 2, 39, .slice (some ⟨r, o, none⟩) m1 cap1), (L 3, 40, .int .i64 k), (L 4, 41, .pointer (some ⟨r, o + k * 6, none⟩)), (L 5, 42, .agg #[.int .i64 kd, .int .i64 wh, .int .i64 on, .int .i64 om, .int .i64 ob, .slice ac ol.length cc]), (L 6, 43, .tuple #[.agg #[.int .i64 x.2.1.towers, .int .i64 x.2.1.need, .int .i64 x.2.1.newest, .string ⟨x.2.1.claim.toArray⟩, x.2.2, .bool x.2.1.sl, .int .i64 x.2.1.fr, .int .i64 x.2.1.to], .bool true]), (L 7, 36, .tuple #[.agg #[.int .i64 x.2.1.towers, .int .i64 x.2.1.need, .int .i64 x.2.1.newest, .string ⟨x.2.1.claim.toArray⟩, x.2.2, .bool x.2.1.sl, .int .i64 x.2.1.fr, .int .i64 x.2.1.to], .bool true]), (L 8, 44, .agg #[.int .i64 x.2.1.towers, .int .i64 x.2.1.need, .int .i64 x.2.1.newest, .string ⟨x.2.1.claim.toArray⟩, x.2.2, .bool x.2.1.sl, .int .i64 x.2.1.fr, .int .i64 x.2.1.to]), (L 9, 45, .bool true)])
        (fun L x W => ∃ X4, Sub X X4 ∧ Gu W w (⟨b8, 61, bif L 10 then #[.int .i64 x.2.1.towers, .int .i64 x.2.1.need, .int .i64 x.2.1.newest, .string ⟨x.2.1.claim.toArray⟩, x.2.2, .bool x.2.1.sl, .int .i64 x.2.1.fr, .int .i64 x.2.1.to] else #[.int .i64 R.towers, .int .i64 R.need, .int .i64 R.newest, .string ⟨R.claim.toArray⟩, .slice ah R.towers ch, .bool R.sl, .int .i64 R.fr, .int .i64 R.to]⟩ :: []) X4 p (bif L 6 then x.1 else G) ∧ (L 6 = true → Sl w X4 x.2.2 x.2.1.towers (ics x.2.1.has) ∧ GR x.1 x.2.1)) (G, R, undef) (by kernel_rfl) (by kernel_rfl) (by rfl) ⟨X, Sub.refl _, HG5.out.drew, fun h => by simp at h⟩ ?_ ⟨?_, ?_, ?_, ?_, ?_, ?_, ?_, ?_, ?_, ?_, ?_, trivial⟩
      rotate_left
      iterate 1 (· (intro L x W hW hC hL hd K hK; (try simp [depsB, Region.binds] at hd); (try simp only [Nat.reduceAdd] at hK hL); simp only [ovl, Array.getD_eq_getD_getElem?, List.getElem?_toArray, List.getElem?_cons_succ, List.getElem?_cons_zero, Option.getD_some, List.setIfInBounds_toArray, List.set_cons_zero, List.set_cons_succ]; (try simp only [hd, cond_true, cond_false]); (have hW0 := hW); (obtain ⟨X4, hs4, g4, hm4⟩ := hW); (obtain ⟨Y4, O4, hX4, hC4⟩ := g4.ow); (obtain ⟨r', o', e4, hr4, hc4⟩ := HV1.out.at_ O4 k hlt); cases e4; (rw [HFk.out] at hc4); (have c0 := hc4 0 _ rfl); (rw [← Nat.add_assoc] at c0); (have c1 := hc4 1 _ rfl); (rw [← Nat.add_assoc] at c1); (have c2 := hc4 2 _ rfl); (rw [← Nat.add_assoc] at c2); (have c3 := hc4 3 _ rfl); (rw [← Nat.add_assoc] at c3); (have c4 := hc4 4 _ rfl); (rw [← Nat.add_assoc] at c4); (have c5 := hc4 5 _ rfl); (rw [← Nat.add_assoc] at c5); (rw [Nat.add_zero] at c0); clear hs4 g4 hm4 hc4 O4 hX4 hC4; go_simp; (have h := hK x W hW0); simp only [ovl, Array.getD_eq_getD_getElem?, List.getElem?_toArray, List.getElem?_cons_succ, List.getElem?_cons_zero, Option.getD_some, List.setIfInBounds_toArray, List.set_cons_zero, List.set_cons_succ] at h; (try simp (decide := true) only [upd, hd, cond_true, cond_false, Bool.true_or, Bool.false_or, decide_true, decide_false] at h); exact h))
      · intro L x W hW hC hL hd K hK; (try simp [depsB, Region.binds] at hd); (try simp only [Nat.reduceAdd] at hK hL)
        (have h10 : L 10 = false := by cases hl : L 10 with | false => rfl | true => have hx := hC 10 _ rfl hl; simp [depsB, Region.binds, hL, hd] at hx); (replace hd := And.intro hd h10)
        have hW0 := hW
        simp only [hL, hd, cond_false] at hW
        simp only [ovl, Array.getD_eq_getD_getElem?, List.getElem?_toArray, List.getElem?_cons_succ, List.getElem?_cons_zero, Option.getD_some, List.setIfInBounds_toArray, List.set_cons_zero, List.set_cons_succ]; (try simp only [hd, cond_true, cond_false])
        obtain ⟨X4, hs4, g4, hm4⟩ := hW
        have hb6 : HasBlk W b8 61 #[.int .i64 R.towers, .int .i64 R.need, .int .i64 R.newest, .string ⟨R.claim.toArray⟩, .slice ah R.towers ch, .bool R.sl, .int .i64 R.fr, .int .i64 R.to] := g4.has (List.mem_cons_self ..)
        (have d0 := hb6.cell 0); (have d1 := hb6.cell 1); (have d2 := hb6.cell 2); (have d3 := hb6.cell 3); (have d4 := hb6.cell 4); (have d5 := hb6.cell 5); (have d6 := hb6.cell 6); (have d7 := hb6.cell 7)
        have l6 := hb6.lt
        clear hb6 g4 hm4 hs4
        go_simp
        (have h := hK x W hW0); simp only [ovl, Array.getD_eq_getD_getElem?, List.getElem?_toArray, List.getElem?_cons_succ, List.getElem?_cons_zero, Option.getD_some, List.setIfInBounds_toArray, List.set_cons_zero, List.set_cons_succ] at h; (try simp (decide := true) only [upd, hd, cond_true, cond_false, Bool.true_or, Bool.false_or, decide_true, decide_false] at h); exact h
      iterate 4 (· (intro L x W hW hC hL hd K hK; (try simp [depsB, Region.binds] at hd); (try simp only [Nat.reduceAdd] at hK hL); simp only [ovl, Array.getD_eq_getD_getElem?, List.getElem?_toArray, List.getElem?_cons_succ, List.getElem?_cons_zero, Option.getD_some, List.setIfInBounds_toArray, List.set_cons_zero, List.set_cons_succ]; (try simp only [hd, cond_true, cond_false]); (have hW0 := hW); (obtain ⟨X4, hs4, g4, hm4⟩ := hW); (obtain ⟨Y4, O4, hX4, hC4⟩ := g4.ow); (obtain ⟨r', o', e4, hr4, hc4⟩ := HV1.out.at_ O4 k hlt); cases e4; (rw [HFk.out] at hc4); (have c0 := hc4 0 _ rfl); (rw [← Nat.add_assoc] at c0); (have c1 := hc4 1 _ rfl); (rw [← Nat.add_assoc] at c1); (have c2 := hc4 2 _ rfl); (rw [← Nat.add_assoc] at c2); (have c3 := hc4 3 _ rfl); (rw [← Nat.add_assoc] at c3); (have c4 := hc4 4 _ rfl); (rw [← Nat.add_assoc] at c4); (have c5 := hc4 5 _ rfl); (rw [← Nat.add_assoc] at c5); (rw [Nat.add_zero] at c0); clear hs4 g4 hm4 hc4 O4 hX4 hC4; go_simp; (have h := hK x W hW0); simp only [ovl, Array.getD_eq_getD_getElem?, List.getElem?_toArray, List.getElem?_cons_succ, List.getElem?_cons_zero, Option.getD_some, List.setIfInBounds_toArray, List.set_cons_zero, List.set_cons_succ] at h; (try simp (decide := true) only [upd, hd, cond_true, cond_false, Bool.true_or, Bool.false_or, decide_true, decide_false] at h); exact h))
      · intro L x W hW hC hL hd K hK; (try simp [depsB, Region.binds] at hd); (try simp only [Nat.reduceAdd] at hK hL)
        (have h7 : L 7 = false := by cases hl : L 7 with | false => rfl | true => have hx := hC 7 _ rfl hl; simp [depsB, Region.binds, hL, hd] at hx); (replace hd := And.intro hd h7); (have h8 : L 8 = false := by cases hl : L 8 with | false => rfl | true => have hx := hC 8 _ rfl hl; simp [depsB, Region.binds, hL, hd] at hx); (replace hd := And.intro hd h8); (have h10 : L 10 = false := by cases hl : L 10 with | false => rfl | true => have hx := hC 10 _ rfl hl; simp [depsB, Region.binds, hL, hd] at hx); (replace hd := And.intro hd h10)
        simp only [hL, hd, cond_false] at hW
        simp only [ovl, Array.getD_eq_getD_getElem?, List.getElem?_toArray, List.getElem?_cons_succ, List.getElem?_cons_zero, Option.getD_some, List.setIfInBounds_toArray, List.set_cons_zero, List.set_cons_succ]; (try simp only [hd, cond_true, cond_false])
        obtain ⟨X4, hs4, g4, -⟩ := hW
        refine wp_call_in 48 (by rfl) (by kernel_rfl) #[ptr p, .agg #[.int .i64 R.towers, .int .i64 R.need, .int .i64 R.newest, .string ⟨R.claim.toArray⟩, .slice ah R.towers ch, .bool R.sl, .int .i64 R.fr, .int .i64 R.to], .agg #[.int .i64 kd, .int .i64 wh, .int .i64 on, .int .i64 om, .int .i64 ob, .slice ac ol.length cc]] (by (simp only [List.map_toArray, List.map_cons, List.map_nil, Act.eval, Array.getD_eq_getD_getElem?, List.getElem?_toArray, List.getElem?_cons_succ, List.getElem?_cons_zero, Option.getD_some])) ((do_any kd wh on om ob ac cc ol hcc W w _ X4 p G R _ g4 (HSl5.out.mono hs4) HGR5.out (HOK.out.mono fun x hx => by cases hx)).mono ?_)
        rintro e W4 ⟨G4, R4, v4, X5, rfl, hs5, g5, sl5, gr5⟩
        refine ⟨_, rfl, ?_⟩
        (have h := hK (G4, R4, v4) W4 ⟨X5, hs4.trans hs5, by simpa (decide := true) only [upd, hd, hL, cond_true, cond_false, Bool.true_or, Bool.false_or, decide_true, decide_false] using g5, fun _ => ⟨sl5, gr5⟩⟩); simp only [ovl, Array.getD_eq_getD_getElem?, List.getElem?_toArray, List.getElem?_cons_succ, List.getElem?_cons_zero, Option.getD_some, List.setIfInBounds_toArray, List.set_cons_zero, List.set_cons_succ] at h; (try simp (decide := true) only [upd, hd, cond_true, cond_false, Bool.true_or, Bool.false_or, decide_true, decide_false] at h); exact h
      iterate 3 (· (intro L x W hW hC hL hd K hK; (try simp [depsB, Region.binds] at hd); (try simp only [Nat.reduceAdd] at hK hL); simp only [ovl, Array.getD_eq_getD_getElem?, List.getElem?_toArray, List.getElem?_cons_succ, List.getElem?_cons_zero, Option.getD_some, List.setIfInBounds_toArray, List.set_cons_zero, List.set_cons_succ]; (try simp only [hd, cond_true, cond_false]); (have hW0 := hW); (obtain ⟨X4, hs4, g4, hm4⟩ := hW); (obtain ⟨Y4, O4, hX4, hC4⟩ := g4.ow); (obtain ⟨r', o', e4, hr4, hc4⟩ := HV1.out.at_ O4 k hlt); cases e4; (rw [HFk.out] at hc4); (have c0 := hc4 0 _ rfl); (rw [← Nat.add_assoc] at c0); (have c1 := hc4 1 _ rfl); (rw [← Nat.add_assoc] at c1); (have c2 := hc4 2 _ rfl); (rw [← Nat.add_assoc] at c2); (have c3 := hc4 3 _ rfl); (rw [← Nat.add_assoc] at c3); (have c4 := hc4 4 _ rfl); (rw [← Nat.add_assoc] at c4); (have c5 := hc4 5 _ rfl); (rw [← Nat.add_assoc] at c5); (rw [Nat.add_zero] at c0); clear hs4 g4 hm4 hc4 O4 hX4 hC4; go_simp; (have h := hK x W hW0); simp only [ovl, Array.getD_eq_getD_getElem?, List.getElem?_toArray, List.getElem?_cons_succ, List.getElem?_cons_zero, Option.getD_some, List.setIfInBounds_toArray, List.set_cons_zero, List.set_cons_succ] at h; (try simp (decide := true) only [upd, hd, cond_true, cond_false, Bool.true_or, Bool.false_or, decide_true, decide_false] at h); exact h))
      · intro L x W hW hC hL hd K hK; (try simp [depsB, Region.binds] at hd); (try simp only [Nat.reduceAdd] at hK hL)
        simp only [hL, hd, cond_false, cond_true] at hW
        simp only [ovl, Array.getD_eq_getD_getElem?, List.getElem?_toArray, List.getElem?_cons_succ, List.getElem?_cons_zero, Option.getD_some, List.setIfInBounds_toArray, List.set_cons_zero, List.set_cons_succ]; (try simp only [hd, cond_true, cond_false])
        obtain ⟨X4, hs4, g4, hm4⟩ := hW
        have h1 : x.2.2.oneCell' = true := by
          obtain ⟨a, c, e, -⟩ := (hm4 trivial).1.slice
          rw [e]; rfl
        refine g4.store 61 (.tmp 8) (.tmp 44) (by rfl) (by rfl) #[.int .i64 x.2.1.towers, .int .i64 x.2.1.need, .int .i64 x.2.1.newest, .string ⟨x.2.1.claim.toArray⟩, x.2.2, .bool x.2.1.sl, .int .i64 x.2.1.fr, .int .i64 x.2.1.to] (by rfl) (by kernel_rfl) (by rfl) (rg_one _ _ h1) (fun W5 g5 => ?_)
        (have h := hK x W5 ⟨X4, hs4, by simpa (decide := true) only [upd, hd, hL, cond_true, cond_false, Bool.true_or, Bool.false_or, decide_true, decide_false] using g5, fun _ => hm4 trivial⟩); simp only [ovl, Array.getD_eq_getD_getElem?, List.getElem?_toArray, List.getElem?_cons_succ, List.getElem?_cons_zero, Option.getD_some, List.setIfInBounds_toArray, List.set_cons_zero, List.set_cons_succ] at h; (try simp (decide := true) only [upd, hd, cond_true, cond_false, Bool.true_or, Bool.false_or, decide_true, decide_false] at h); exact h
      intro x W9 hW9
      obtain ⟨G9, R9, v9⟩ := x
      simp only [ovl, cond_true, Array.getD_eq_getD_getElem?, List.getElem?_toArray, List.getElem?_cons_succ, List.getElem?_cons_zero, Option.getD_some, List.setIfInBounds_toArray, List.set_cons_zero, List.set_cons_succ]
      simp only [cond_true] at hW9
      obtain ⟨X9, hs9, g9, hm9⟩ := hW9
      obtain ⟨sl9, gr9⟩ := hm9 trivial
      obtain ⟨a9, c9, rfl, -⟩ := sl9.slice
      have HG9 := Lib.hid g9
      have HSl9 := Lib.hid sl9
      have HGR9 := Lib.hid gr9
      clear g9 sl9 gr9 hm9 hs9
      go_wp2
      exact ⟨⟨k + 1, G9, R9, a9, c9, X9, by simp, by omega, by omega, HG9.out, HSl9.out, HGR9.out⟩, by simp [intOf]; omega⟩
    · have hBL : G.box.length ≤ 1000 := HGR5.out.boxlen
      have hgoe : ¬ k < m1 ∨ (k < m1 ∧ ¬ k < 30) := by omega
      refine wp_opq (fun W => Gu W w [⟨b8, 61, #[.int .i64 R.towers, .int .i64 R.need, .int .i64 R.newest, .string ⟨R.claim.toArray⟩, .slice ah R.towers ch, .bool R.sl, .int .i64 R.fr, .int .i64 R.to]⟩] X p G) HG5.out ?_
      intro W6 h6
      have H6 := Lib.hid h6
      clear h6 HG5
      rcases hgoe with hd1 | ⟨hd1, hd2⟩
      · go_wp2_with fail
        have T := gclone_to p G W6 w _ X H6.out (by omega)
        refine T.mono ?_
        rintro e w6 ⟨q, rfl, X6, hs6, g6⟩
        have heq := gptr_ne g6
        have HG6 := Lib.hid g6
        have HS6 := Lib.hid (HSl5.out.mono hs6)
        clear g6 hs6
        go_wp2_with fail
        refine (HG6.out.swap.same true (sameG_self G)).mono ?_
        rintro e w7 ⟨rfl, hb7⟩
        have HG7 := Lib.hid (HG6.out.of_below hb7)
        clear hb7 HG6
        go_wp2_with fail
        refine (HG7.out.same true (sameG_self G)).mono ?_
        rintro e w8 ⟨rfl, hb8⟩
        have HG8 := Lib.hid (HG7.out.of_below hb8)
        clear hb8 HG7
        go_wp2_with fail
        refine (gsame_pn p w8).mono ?_
        rintro e w9 ⟨rfl, rfl⟩
        have hb4 : HasBlk w9 b8 61 #[.int .i64 R.towers, .int .i64 R.need, .int .i64 R.newest, .string ⟨R.claim.toArray⟩, .slice ah R.towers ch, .bool R.sl, .int .i64 R.fr, .int .i64 R.to] := HG8.out.has (by simp)
        (have y0 := hb4.cell 0); (have y1 := hb4.cell 1); (have y2 := hb4.cell 2); (have y3 := hb4.cell 3); (have y4 := hb4.cell 4); (have y5 := hb4.cell 5); (have y6 := hb4.cell 6); (have y7 := hb4.cell 7)
        have l4 := hb4.lt
        simp only [List.getElem?_toArray, List.getElem?_cons_succ, List.getElem?_cons_zero] at y0 y1 y2 y3 y4 y5 y6 y7
        obtain ⟨vp, g8, mp⟩ := HG8.out.swap.one
        have HMp := Lib.hid mp
        have HG9 := Lib.hid (g8.park (cs := #[.int .i64 R.towers, .int .i64 R.need, .int .i64 R.newest, .string ⟨R.claim.toArray⟩, .slice ah R.towers ch, .bool R.sl, .int .i64 R.fr, .int .i64 R.to]) (t := 61) (b := w9.heap.size) rfl)
        clear hb4 g8 mp HG8 H6
        go_wp2_with fail
        obtain ⟨b11, hb11⟩ : ∃ b11, b11 = w9.heap.size := ⟨_, rfl⟩
        rw [← hb11] at HG9
        simp only [← hb11]
        clear hb11 y0 y1 y2 y3 y4 y5 y6 y7 l4 heq
        go_loopw [12] (fun vi wr => ∃ (k2 : Nat) (H : GS) (S : RS) (a2 : Option Addr) (c2 : Nat) (X : List Blk), vi = .int .i64 k2 ∧ k2 ≤ m2 ∧ k2 ≤ 30 ∧ Sub X6 X ∧ Gu wr w (⟨b11, 61, #[.int .i64 S.towers, .int .i64 S.need, .int .i64 S.newest, .string ⟨S.claim.toArray⟩, .slice a2 S.towers c2, .bool S.sl, .int .i64 S.fr, .int .i64 S.to]⟩ :: [⟨p, 132, gcs G vp⟩, ⟨b8, 61, #[.int .i64 R.towers, .int .i64 R.need, .int .i64 R.newest, .string ⟨R.claim.toArray⟩, .slice ah R.towers ch, .bool R.sl, .int .i64 R.fr, .int .i64 R.to]⟩]) X q H ∧ Sl w X (.slice a2 S.towers c2) S.towers (ics S.has) ∧ GR H S) (fun i _ => m2 - (intOf i).toNat)
        case atStart => exact ⟨0, G, R, ah, ch, X6, rfl, by omega, by omega, Sub.refl _, HG9.out, HS6.out, HGR5.out⟩
        case round =>
          obtain ⟨k2, H, S, a2, c2, X7, rfl, hk2, hk230, hsX, g5, sl5, gr5⟩ := hrel
          have HG15 := Lib.hid g5
          have HSl15 := Lib.hid sl5
          have HGR15 := Lib.hid gr5
          have HsX := Lib.hid hsX
          clear g5 sl5 gr5 hsX
          by_cases hgo2 : k2 < m2 ∧ k2 < 30
          · obtain ⟨hlt, hlt30⟩ := hgo2
            obtain ⟨Y, O, hY, -⟩ := HG15.out.ow
            obtain ⟨r, o, rfl, hr, hc⟩ := HV2.out.at_ O k2 hlt
            have ok := HF2.out k2 hlt
            obtain ⟨⟨kd, wh, on, om, ob, ol, ov⟩, HFk⟩ : ∃ y, Hid (F2 k2 = y) := ⟨_, rfl⟩
            rw [HFk.out] at ok
            obtain ⟨ac, cc, e1⟩ := ok.slice
            have hcc := ok.slice2
            simp only at e1
            subst e1
            have hcc : ol.length ≤ cc := hcc _ _ rfl
            have HOK := Lib.hid ok
            clear hc ok O hY
            go_wp2_with fail
            refine wp_region_ov (fun L (x : GS × RS × Value) => [(L 0, 83, ptr q), (L 1, 84, .agg #[.int .i64 S.towers, .int .i64 S.need, .int .i64 S.newest, .string ⟨S.claim.toArray⟩, .slice a2 S.towers c2, .bool S.sl, .int .i64 S.fr, .int .i64 S.to]), (L 2, 85, .slice (some ⟨r, o, none⟩) m2 cap2), (L 3, 86, .int .i64 k2), (L 4, 87, .pointer (some ⟨r, o + k2 * 6, none⟩)), (L 5, 88, .agg #[.int .i64 kd, .int .i64 wh, .int .i64 on, .int .i64 om, .int .i64 ob, .slice ac ol.length cc]), (L 6, 89, .tuple #[.agg #[.int .i64 x.2.1.towers, .int .i64 x.2.1.need, .int .i64 x.2.1.newest, .string ⟨x.2.1.claim.toArray⟩, x.2.2, .bool x.2.1.sl, .int .i64 x.2.1.fr, .int .i64 x.2.1.to], .bool true]), (L 7, 82, .tuple #[.agg #[.int .i64 x.2.1.towers, .int .i64 x.2.1.need, .int .i64 x.2.1.newest, .string ⟨x.2.1.claim.toArray⟩, x.2.2, .bool x.2.1.sl, .int .i64 x.2.1.fr, .int .i64 x.2.1.to], .bool true]), (L 8, 90, .agg #[.int .i64 x.2.1.towers, .int .i64 x.2.1.need, .int .i64 x.2.1.newest, .string ⟨x.2.1.claim.toArray⟩, x.2.2, .bool x.2.1.sl, .int .i64 x.2.1.fr, .int .i64 x.2.1.to]), (L 9, 91, .bool true)])
              (fun L x W => ∃ X4, Sub X7 X4 ∧ Gu W w (⟨b11, 61, bif L 10 then #[.int .i64 x.2.1.towers, .int .i64 x.2.1.need, .int .i64 x.2.1.newest, .string ⟨x.2.1.claim.toArray⟩, x.2.2, .bool x.2.1.sl, .int .i64 x.2.1.fr, .int .i64 x.2.1.to] else #[.int .i64 S.towers, .int .i64 S.need, .int .i64 S.newest, .string ⟨S.claim.toArray⟩, .slice a2 S.towers c2, .bool S.sl, .int .i64 S.fr, .int .i64 S.to]⟩ :: [⟨p, 132, gcs G vp⟩, ⟨b8, 61, #[.int .i64 R.towers, .int .i64 R.need, .int .i64 R.newest, .string ⟨R.claim.toArray⟩, .slice ah R.towers ch, .bool R.sl, .int .i64 R.fr, .int .i64 R.to]⟩]) X4 q (bif L 6 then x.1 else H) ∧ (L 6 = true → Sl w X4 x.2.2 x.2.1.towers (ics x.2.1.has) ∧ GR x.1 x.2.1)) (H, S, undef) (by kernel_rfl) (by kernel_rfl) (by rfl) ⟨X7, Sub.refl _, HG15.out.drew, fun h => by simp at h⟩ ?_ ⟨?_, ?_, ?_, ?_, ?_, ?_, ?_, ?_, ?_, ?_, ?_, trivial⟩
            rotate_left
            iterate 1 (· (intro L x W hW hC hL hd K hK; (try simp [depsB, Region.binds] at hd); (try simp only [Nat.reduceAdd] at hK hL); simp only [ovl, Array.getD_eq_getD_getElem?, List.getElem?_toArray, List.getElem?_cons_succ, List.getElem?_cons_zero, Option.getD_some, List.setIfInBounds_toArray, List.set_cons_zero, List.set_cons_succ]; (try simp only [hd, cond_true, cond_false]); (have hW0 := hW); (obtain ⟨X4, hs4, g4, hm4⟩ := hW); (obtain ⟨Y4, O4, hX4, hC4⟩ := g4.ow); (obtain ⟨r', o', e4, hr4, hc4⟩ := HV2.out.at_ O4 k2 hlt); cases e4; (rw [HFk.out] at hc4); (have c0 := hc4 0 _ rfl); (rw [← Nat.add_assoc] at c0); (have c1 := hc4 1 _ rfl); (rw [← Nat.add_assoc] at c1); (have c2 := hc4 2 _ rfl); (rw [← Nat.add_assoc] at c2); (have c3 := hc4 3 _ rfl); (rw [← Nat.add_assoc] at c3); (have c4 := hc4 4 _ rfl); (rw [← Nat.add_assoc] at c4); (have c5 := hc4 5 _ rfl); (rw [← Nat.add_assoc] at c5); (rw [Nat.add_zero] at c0); clear hs4 g4 hm4 hc4 O4 hX4 hC4; go_simp; (have h := hK x W hW0); simp only [ovl, Array.getD_eq_getD_getElem?, List.getElem?_toArray, List.getElem?_cons_succ, List.getElem?_cons_zero, Option.getD_some, List.setIfInBounds_toArray, List.set_cons_zero, List.set_cons_succ] at h; (try simp (decide := true) only [upd, hd, cond_true, cond_false, Bool.true_or, Bool.false_or, decide_true, decide_false] at h); exact h))
            · intro L x W hW hC hL hd K hK; (try simp [depsB, Region.binds] at hd); (try simp only [Nat.reduceAdd] at hK hL)
              (have h10 : L 10 = false := by cases hl : L 10 with | false => rfl | true => have hx := hC 10 _ rfl hl; simp [depsB, Region.binds, hL, hd] at hx); (replace hd := And.intro hd h10)
              have hW0 := hW
              simp only [hL, hd, cond_false] at hW
              simp only [ovl, Array.getD_eq_getD_getElem?, List.getElem?_toArray, List.getElem?_cons_succ, List.getElem?_cons_zero, Option.getD_some, List.setIfInBounds_toArray, List.set_cons_zero, List.set_cons_succ]; (try simp only [hd, cond_true, cond_false])
              obtain ⟨X4, hs4, g4, hm4⟩ := hW
              have hb6 : HasBlk W b11 61 #[.int .i64 S.towers, .int .i64 S.need, .int .i64 S.newest, .string ⟨S.claim.toArray⟩, .slice a2 S.towers c2, .bool S.sl, .int .i64 S.fr, .int .i64 S.to] := g4.has (List.mem_cons_self ..)
              (have d0 := hb6.cell 0); (have d1 := hb6.cell 1); (have d2 := hb6.cell 2); (have d3 := hb6.cell 3); (have d4 := hb6.cell 4); (have d5 := hb6.cell 5); (have d6 := hb6.cell 6); (have d7 := hb6.cell 7)
              have l6 := hb6.lt
              clear hb6 g4 hm4 hs4
              go_simp
              (have h := hK x W hW0); simp only [ovl, Array.getD_eq_getD_getElem?, List.getElem?_toArray, List.getElem?_cons_succ, List.getElem?_cons_zero, Option.getD_some, List.setIfInBounds_toArray, List.set_cons_zero, List.set_cons_succ] at h; (try simp (decide := true) only [upd, hd, cond_true, cond_false, Bool.true_or, Bool.false_or, decide_true, decide_false] at h); exact h
            iterate 4 (· (intro L x W hW hC hL hd K hK; (try simp [depsB, Region.binds] at hd); (try simp only [Nat.reduceAdd] at hK hL); simp only [ovl, Array.getD_eq_getD_getElem?, List.getElem?_toArray, List.getElem?_cons_succ, List.getElem?_cons_zero, Option.getD_some, List.setIfInBounds_toArray, List.set_cons_zero, List.set_cons_succ]; (try simp only [hd, cond_true, cond_false]); (have hW0 := hW); (obtain ⟨X4, hs4, g4, hm4⟩ := hW); (obtain ⟨Y4, O4, hX4, hC4⟩ := g4.ow); (obtain ⟨r', o', e4, hr4, hc4⟩ := HV2.out.at_ O4 k2 hlt); cases e4; (rw [HFk.out] at hc4); (have c0 := hc4 0 _ rfl); (rw [← Nat.add_assoc] at c0); (have c1 := hc4 1 _ rfl); (rw [← Nat.add_assoc] at c1); (have c2 := hc4 2 _ rfl); (rw [← Nat.add_assoc] at c2); (have c3 := hc4 3 _ rfl); (rw [← Nat.add_assoc] at c3); (have c4 := hc4 4 _ rfl); (rw [← Nat.add_assoc] at c4); (have c5 := hc4 5 _ rfl); (rw [← Nat.add_assoc] at c5); (rw [Nat.add_zero] at c0); clear hs4 g4 hm4 hc4 O4 hX4 hC4; go_simp; (have h := hK x W hW0); simp only [ovl, Array.getD_eq_getD_getElem?, List.getElem?_toArray, List.getElem?_cons_succ, List.getElem?_cons_zero, Option.getD_some, List.setIfInBounds_toArray, List.set_cons_zero, List.set_cons_succ] at h; (try simp (decide := true) only [upd, hd, cond_true, cond_false, Bool.true_or, Bool.false_or, decide_true, decide_false] at h); exact h))
            · intro L x W hW hC hL hd K hK; (try simp [depsB, Region.binds] at hd); (try simp only [Nat.reduceAdd] at hK hL)
              (have h7 : L 7 = false := by cases hl : L 7 with | false => rfl | true => have hx := hC 7 _ rfl hl; simp [depsB, Region.binds, hL, hd] at hx); (replace hd := And.intro hd h7); (have h8 : L 8 = false := by cases hl : L 8 with | false => rfl | true => have hx := hC 8 _ rfl hl; simp [depsB, Region.binds, hL, hd] at hx); (replace hd := And.intro hd h8); (have h10 : L 10 = false := by cases hl : L 10 with | false => rfl | true => have hx := hC 10 _ rfl hl; simp [depsB, Region.binds, hL, hd] at hx); (replace hd := And.intro hd h10)
              simp only [hL, hd, cond_false] at hW
              simp only [ovl, Array.getD_eq_getD_getElem?, List.getElem?_toArray, List.getElem?_cons_succ, List.getElem?_cons_zero, Option.getD_some, List.setIfInBounds_toArray, List.set_cons_zero, List.set_cons_succ]; (try simp only [hd, cond_true, cond_false])
              obtain ⟨X4, hs4, g4, -⟩ := hW
              refine wp_call_in 48 (by rfl) (by kernel_rfl) #[ptr q, .agg #[.int .i64 S.towers, .int .i64 S.need, .int .i64 S.newest, .string ⟨S.claim.toArray⟩, .slice a2 S.towers c2, .bool S.sl, .int .i64 S.fr, .int .i64 S.to], .agg #[.int .i64 kd, .int .i64 wh, .int .i64 on, .int .i64 om, .int .i64 ob, .slice ac ol.length cc]] (by (simp only [List.map_toArray, List.map_cons, List.map_nil, Act.eval, Array.getD_eq_getD_getElem?, List.getElem?_toArray, List.getElem?_cons_succ, List.getElem?_cons_zero, Option.getD_some])) ((do_any kd wh on om ob ac cc ol hcc W w _ X4 q H S _ g4 (HSl15.out.mono hs4) HGR15.out (HOK.out.mono fun x hx => by cases hx)).mono ?_)
              rintro e W4 ⟨G4, R4, v4, X5, rfl, hs5, g5, sl5, gr5⟩
              refine ⟨_, rfl, ?_⟩
              (have h := hK (G4, R4, v4) W4 ⟨X5, hs4.trans hs5, by simpa (decide := true) only [upd, hd, hL, cond_true, cond_false, Bool.true_or, Bool.false_or, decide_true, decide_false] using g5, fun _ => ⟨sl5, gr5⟩⟩); simp only [ovl, Array.getD_eq_getD_getElem?, List.getElem?_toArray, List.getElem?_cons_succ, List.getElem?_cons_zero, Option.getD_some, List.setIfInBounds_toArray, List.set_cons_zero, List.set_cons_succ] at h; (try simp (decide := true) only [upd, hd, cond_true, cond_false, Bool.true_or, Bool.false_or, decide_true, decide_false] at h); exact h
            iterate 3 (· (intro L x W hW hC hL hd K hK; (try simp [depsB, Region.binds] at hd); (try simp only [Nat.reduceAdd] at hK hL); simp only [ovl, Array.getD_eq_getD_getElem?, List.getElem?_toArray, List.getElem?_cons_succ, List.getElem?_cons_zero, Option.getD_some, List.setIfInBounds_toArray, List.set_cons_zero, List.set_cons_succ]; (try simp only [hd, cond_true, cond_false]); (have hW0 := hW); (obtain ⟨X4, hs4, g4, hm4⟩ := hW); (obtain ⟨Y4, O4, hX4, hC4⟩ := g4.ow); (obtain ⟨r', o', e4, hr4, hc4⟩ := HV2.out.at_ O4 k2 hlt); cases e4; (rw [HFk.out] at hc4); (have c0 := hc4 0 _ rfl); (rw [← Nat.add_assoc] at c0); (have c1 := hc4 1 _ rfl); (rw [← Nat.add_assoc] at c1); (have c2 := hc4 2 _ rfl); (rw [← Nat.add_assoc] at c2); (have c3 := hc4 3 _ rfl); (rw [← Nat.add_assoc] at c3); (have c4 := hc4 4 _ rfl); (rw [← Nat.add_assoc] at c4); (have c5 := hc4 5 _ rfl); (rw [← Nat.add_assoc] at c5); (rw [Nat.add_zero] at c0); clear hs4 g4 hm4 hc4 O4 hX4 hC4; go_simp; (have h := hK x W hW0); simp only [ovl, Array.getD_eq_getD_getElem?, List.getElem?_toArray, List.getElem?_cons_succ, List.getElem?_cons_zero, Option.getD_some, List.setIfInBounds_toArray, List.set_cons_zero, List.set_cons_succ] at h; (try simp (decide := true) only [upd, hd, cond_true, cond_false, Bool.true_or, Bool.false_or, decide_true, decide_false] at h); exact h))
            · intro L x W hW hC hL hd K hK; (try simp [depsB, Region.binds] at hd); (try simp only [Nat.reduceAdd] at hK hL)
              simp only [hL, hd, cond_false, cond_true] at hW
              simp only [ovl, Array.getD_eq_getD_getElem?, List.getElem?_toArray, List.getElem?_cons_succ, List.getElem?_cons_zero, Option.getD_some, List.setIfInBounds_toArray, List.set_cons_zero, List.set_cons_succ]; (try simp only [hd, cond_true, cond_false])
              obtain ⟨X4, hs4, g4, hm4⟩ := hW
              have h1 : x.2.2.oneCell' = true := by
                obtain ⟨a, c, e, -⟩ := (hm4 trivial).1.slice
                rw [e]; rfl
              refine g4.store 61 (.tmp 11) (.tmp 90) (by rfl) (by rfl) #[.int .i64 x.2.1.towers, .int .i64 x.2.1.need, .int .i64 x.2.1.newest, .string ⟨x.2.1.claim.toArray⟩, x.2.2, .bool x.2.1.sl, .int .i64 x.2.1.fr, .int .i64 x.2.1.to] (by rfl) (by kernel_rfl) (by rfl) (rg_one _ _ h1) (fun W5 g5 => ?_)
              (have h := hK x W5 ⟨X4, hs4, by simpa (decide := true) only [upd, hd, hL, cond_true, cond_false, Bool.true_or, Bool.false_or, decide_true, decide_false] using g5, fun _ => hm4 trivial⟩); simp only [ovl, Array.getD_eq_getD_getElem?, List.getElem?_toArray, List.getElem?_cons_succ, List.getElem?_cons_zero, Option.getD_some, List.setIfInBounds_toArray, List.set_cons_zero, List.set_cons_succ] at h; (try simp (decide := true) only [upd, hd, cond_true, cond_false, Bool.true_or, Bool.false_or, decide_true, decide_false] at h); exact h
            intro x W9 hW9
            obtain ⟨G9, R9, v9⟩ := x
            simp only [ovl, cond_true, Array.getD_eq_getD_getElem?, List.getElem?_toArray, List.getElem?_cons_succ, List.getElem?_cons_zero, Option.getD_some, List.setIfInBounds_toArray, List.set_cons_zero, List.set_cons_succ]
            simp only [cond_true] at hW9
            obtain ⟨X9, hs9, g9, hm9⟩ := hW9
            obtain ⟨sl9, gr9⟩ := hm9 trivial
            obtain ⟨a9, c9, rfl, -⟩ := sl9.slice
            have hgw : Gw2 W9 w [⟨b11, 61, #[.int .i64 R9.towers, .int .i64 R9.need, .int .i64 R9.newest, .string ⟨R9.claim.toArray⟩, .slice a9 R9.towers c9, .bool R9.sl, .int .i64 R9.fr, .int .i64 R9.to]⟩, ⟨b8, 61, #[.int .i64 R.towers, .int .i64 R.need, .int .i64 R.newest, .string ⟨R.claim.toArray⟩, .slice ah R.towers ch, .bool R.sl, .int .i64 R.fr, .int .i64 R.to]⟩] X9 q G9 p G := Gw2.mk' (g9.permC (perm_cnt fun x => by simp only [cnt_append, cnt_cons, cnt_nil] <;> omega)) HMp.out (HsX.out.trans hs9)
            have HGW := Lib.hid hgw
            have hx11 : HasBlk W9 b11 61 #[.int .i64 R9.towers, .int .i64 R9.need, .int .i64 R9.newest, .string ⟨R9.claim.toArray⟩, .slice a9 R9.towers c9, .bool R9.sl, .int .i64 R9.fr, .int .i64 R9.to] := hgw.has (by simp)
            have hx8 : HasBlk W9 b8 61 #[.int .i64 R.towers, .int .i64 R.need, .int .i64 R.newest, .string ⟨R.claim.toArray⟩, .slice ah R.towers ch, .bool R.sl, .int .i64 R.fr, .int .i64 R.to] := hgw.has (by simp)
            (have x0 := hx8.cell 0); (have x1 := hx8.cell 1); (have x2 := hx8.cell 2); (have x3 := hx8.cell 3); (have x4 := hx8.cell 4); (have x5 := hx8.cell 5); (have x6 := hx8.cell 6); (have x7 := hx8.cell 7)
            (have z0 := hx11.cell 0); (have z1 := hx11.cell 1); (have z2 := hx11.cell 2); (have z3 := hx11.cell 3); (have z4 := hx11.cell 4); (have z5 := hx11.cell 5); (have z6 := hx11.cell 6); (have z7 := hx11.cell 7)
            simp only [List.getElem?_toArray, List.getElem?_cons_succ, List.getElem?_cons_zero] at x0 x1 x2 x3 x4 x5 x6 x7
            simp only [List.getElem?_toArray, List.getElem?_cons_succ, List.getElem?_cons_zero] at z0 z1 z2 z3 z4 z5 z6 z7
            have l8 := hx8.lt
            have l11 := hx11.lt
            have HG9' := Lib.hid g9
            have HSl9 := Lib.hid sl9
            have HGR9 := Lib.hid gr9
            have HSR : Hid (Sl w X9 (.slice ah R.towers ch) R.towers (ics R.has)) := HS6.out.mono (HsX.out.trans hs9)
            have HsX9 := Lib.hid (HsX.out.trans hs9)
            obtain ⟨sb, HSB⟩ : ∃ sb, Hid (sameG G G9 = sb) := ⟨_, rfl⟩
            have HAL : Hid (alikeB R R9 = sb) := by show _ = _; rw [← HGR5.out.alike HGR9.out]; exact HSB.out
            clear g9 sl9 gr9 hm9 hs9 hgw hx11 hx8
            have T1 : Hid (∀ g d, Calls Try.prog 49 #[ptr p, .agg #[.int .i64 R.towers, .int .i64 R.need, .int .i64 R.newest, .string ⟨R.claim.toArray⟩, .slice ah R.towers ch, .bool R.sl, .int .i64 R.fr, .int .i64 R.to], .int .i64 5] (plus W9 g d) fun e w' => e = .returned (.bool true) ∧ Below (plus W9 g d).heap.size (plus W9 g d) w') := fun g d => by
              obtain ⟨v2, gp, -⟩ := (HGW.out.swap.plus g d).one
              exact seen_any 5 _ w _ X9 p G R _ gp HSR.out HGR5.out
            have T2 : Hid (∀ g d, Calls Try.prog 49 #[ptr q, .agg #[.int .i64 R9.towers, .int .i64 R9.need, .int .i64 R9.newest, .string ⟨R9.claim.toArray⟩, .slice a9 R9.towers c9, .bool R9.sl, .int .i64 R9.fr, .int .i64 R9.to], .int .i64 5] (plus W9 g d) fun e w' => e = .returned (.bool true) ∧ Below (plus W9 g d).heap.size (plus W9 g d) w') := fun g d =>
              seen_any 5 _ w _ X9 q G9 R9 _ (HG9'.out.plus g d) HSl9.out HGR9.out
            have T3 : Hid (∀ g d, Calls Try.prog 47 #[ptr p, ptr q] (plus W9 g d) fun e w' => e = .returned (.bool sb) ∧ Below (plus W9 g d).heap.size (plus W9 g d) w') := fun g d => (HGW.out.swap.plus g d).same sb HSB.out
            have T4 : Hid (∀ g d, Calls Try.prog 50 #[.agg #[.int .i64 R.towers, .int .i64 R.need, .int .i64 R.newest, .string ⟨R.claim.toArray⟩, .slice ah R.towers ch, .bool R.sl, .int .i64 R.fr, .int .i64 R.to], .agg #[.int .i64 R9.towers, .int .i64 R9.need, .int .i64 R9.newest, .string ⟨R9.claim.toArray⟩, .slice a9 R9.towers c9, .bool R9.sl, .int .i64 R9.fr, .int .i64 R9.to]] (plus W9 g d) fun e w' => e = .returned (.bool sb) ∧ Below (plus W9 g d).heap.size (plus W9 g d) w') := fun g d =>
              alike_to R R9 _ _ _ HGR5.out.len HGR9.out.len HGR5.out.tt HGR9.out.tt ((HG9'.out.plus g d).sl HSR.out) ((HG9'.out.plus g d).sl HSl9.out) sb HAL.out
            cases sb with
            | true =>
              go_wp2_with fail
              refine wp_region_rq (by kernel_rfl) (by kernel_rfl) (by kernel_rfl) ?_
              repeat (first
                | (refine B_skip ?_ ?_; (· rfl); (try simp only [Act.put, List.setIfInBounds_toArray, List.set_cons_zero, List.set_cons_succ]))
                | (refine B_move rfl ?_ ?_; (· rfl); (try simp only [Act.eval, Act.put, Array.getD_eq_getD_getElem?, List.getElem?_toArray, List.getElem?_cons_succ, List.getElem?_cons_zero, Option.getD_some, List.setIfInBounds_toArray, List.set_cons_zero, List.set_cons_succ]))
                | (refine B_plain ?_ ?_; (· rfl); intro K hK; go_big_quiet_op; with_reducible refine hK _ ?_; clear hK K)
                | (refine B_callX (v := ?_) (f := 49) rfl (by kernel_rfl) ?_ (fun xq => ?_) ?_; rotate_left; (· rfl); (· ((simp only [List.map_toArray, List.map_cons, List.map_nil, Act.eval, Array.getD_eq_getD_getElem?, List.getElem?_toArray, List.getElem?_cons_succ, List.getElem?_cons_zero, Option.getD_some]); with_reducible apply retB; with_reducible exact (T1.out _ _))); (try simp only [Act.put, List.setIfInBounds_toArray, List.set_cons_zero, List.set_cons_succ]))
                | (refine B_callX (v := ?_) (f := 49) rfl (by kernel_rfl) ?_ (fun xq => ?_) ?_; rotate_left; (· rfl); (· ((simp only [List.map_toArray, List.map_cons, List.map_nil, Act.eval, Array.getD_eq_getD_getElem?, List.getElem?_toArray, List.getElem?_cons_succ, List.getElem?_cons_zero, Option.getD_some]); with_reducible apply retB; with_reducible exact (T2.out _ _))); (try simp only [Act.put, List.setIfInBounds_toArray, List.set_cons_zero, List.set_cons_succ]))
                | (refine B_callX (v := ?_) (f := 47) rfl (by kernel_rfl) ?_ (fun xq => ?_) ?_; rotate_left; (· rfl); (· ((simp only [List.map_toArray, List.map_cons, List.map_nil, Act.eval, Array.getD_eq_getD_getElem?, List.getElem?_toArray, List.getElem?_cons_succ, List.getElem?_cons_zero, Option.getD_some]); with_reducible apply retB; with_reducible exact (T3.out _ _))); (try simp only [Act.put, List.setIfInBounds_toArray, List.set_cons_zero, List.set_cons_succ]))
                | (refine B_callX (v := ?_) (f := 50) rfl (by kernel_rfl) ?_ (fun xq => ?_) ?_; rotate_left; (· rfl); (· ((simp only [List.map_toArray, List.map_cons, List.map_nil, Act.eval, Array.getD_eq_getD_getElem?, List.getElem?_toArray, List.getElem?_cons_succ, List.getElem?_cons_zero, Option.getD_some]); with_reducible apply retB; with_reducible exact (T4.out _ _))); (try simp only [Act.put, List.setIfInBounds_toArray, List.set_cons_zero, List.set_cons_succ])))
              refine B_nil ?_ rfl ?_ ?_
              · kernel_rfl
              · rfl
              rintro _ ⟨⟨g20, d20⟩, rfl⟩
              simp only [fin, Act.put, List.setIfInBounds_toArray, List.set_cons_zero, List.set_cons_succ]
              go_wp2
              exact ⟨⟨k2 + 1, G9, R9, a9, c9, X9, by simp, by omega, by omega, HsX9.out, HG9'.out.plus _ _, HSl9.out, HGR9.out⟩, by simp [intOf]; omega⟩
            | false =>
              go_wp2_with fail
              refine wp_region_rq (by kernel_rfl) (by kernel_rfl) (by kernel_rfl) ?_
              repeat (first
                | (refine B_skip ?_ ?_; (· rfl); (try simp only [Act.put, List.setIfInBounds_toArray, List.set_cons_zero, List.set_cons_succ]))
                | (refine B_move rfl ?_ ?_; (· rfl); (try simp only [Act.eval, Act.put, Array.getD_eq_getD_getElem?, List.getElem?_toArray, List.getElem?_cons_succ, List.getElem?_cons_zero, Option.getD_some, List.setIfInBounds_toArray, List.set_cons_zero, List.set_cons_succ]))
                | (refine B_plain ?_ ?_; (· rfl); intro K hK; go_big_quiet_op; with_reducible refine hK _ ?_; clear hK K)
                | (refine B_callX (v := ?_) (f := 49) rfl (by kernel_rfl) ?_ (fun xq => ?_) ?_; rotate_left; (· rfl); (· ((simp only [List.map_toArray, List.map_cons, List.map_nil, Act.eval, Array.getD_eq_getD_getElem?, List.getElem?_toArray, List.getElem?_cons_succ, List.getElem?_cons_zero, Option.getD_some]); with_reducible apply retB; with_reducible exact (T1.out _ _))); (try simp only [Act.put, List.setIfInBounds_toArray, List.set_cons_zero, List.set_cons_succ]))
                | (refine B_callX (v := ?_) (f := 49) rfl (by kernel_rfl) ?_ (fun xq => ?_) ?_; rotate_left; (· rfl); (· ((simp only [List.map_toArray, List.map_cons, List.map_nil, Act.eval, Array.getD_eq_getD_getElem?, List.getElem?_toArray, List.getElem?_cons_succ, List.getElem?_cons_zero, Option.getD_some]); with_reducible apply retB; with_reducible exact (T2.out _ _))); (try simp only [Act.put, List.setIfInBounds_toArray, List.set_cons_zero, List.set_cons_succ]))
                | (refine B_callX (v := ?_) (f := 47) rfl (by kernel_rfl) ?_ (fun xq => ?_) ?_; rotate_left; (· rfl); (· ((simp only [List.map_toArray, List.map_cons, List.map_nil, Act.eval, Array.getD_eq_getD_getElem?, List.getElem?_toArray, List.getElem?_cons_succ, List.getElem?_cons_zero, Option.getD_some]); with_reducible apply retB; with_reducible exact (T3.out _ _))); (try simp only [Act.put, List.setIfInBounds_toArray, List.set_cons_zero, List.set_cons_succ]))
                | (refine B_callX (v := ?_) (f := 50) rfl (by kernel_rfl) ?_ (fun xq => ?_) ?_; rotate_left; (· rfl); (· ((simp only [List.map_toArray, List.map_cons, List.map_nil, Act.eval, Array.getD_eq_getD_getElem?, List.getElem?_toArray, List.getElem?_cons_succ, List.getElem?_cons_zero, Option.getD_some]); with_reducible apply retB; with_reducible exact (T4.out _ _))); (try simp only [Act.put, List.setIfInBounds_toArray, List.set_cons_zero, List.set_cons_succ])))
              refine B_nil ?_ rfl ?_ ?_
              · kernel_rfl
              · rfl
              rintro _ ⟨⟨g20, d20⟩, rfl⟩
              simp only [fin, Act.put, List.setIfInBounds_toArray, List.set_cons_zero, List.set_cons_succ]
              go_wp2
              exact ⟨⟨k2 + 1, G9, R9, a9, c9, X9, by simp, by omega, by omega, HsX9.out, HG9'.out.plus _ _, HSl9.out, HGR9.out⟩, by simp [intOf]; omega⟩
          · have hBL : H.box.length ≤ 1000 := HGR15.out.boxlen
            have hgoe2 : ¬ k2 < m2 ∨ (k2 < m2 ∧ ¬ k2 < 30) := by omega
            clear HG9 HS6 HMp HGR5 HSl5
            rcases hgoe2 with hd1 | ⟨hd1, hd2⟩
            · go_wp2_with fail
              obtain ⟨CC, HCC⟩ : ∃ CC : List Blk, CC = (⟨b11, 61, #[.int .i64 S.towers, .int .i64 S.need, .int .i64 S.newest, .string ⟨S.claim.toArray⟩, .slice a2 S.towers c2, .bool S.sl, .int .i64 S.fr, .int .i64 S.to]⟩ :: [⟨p, 132, gcs G vp⟩, ⟨b8, 61, #[.int .i64 R.towers, .int .i64 R.need, .int .i64 R.newest, .string ⟨R.claim.toArray⟩, .slice ah R.towers ch, .bool R.sl, .int .i64 R.fr, .int .i64 R.to]⟩]) := ⟨_, rfl⟩
              have HCM : Hid ((⟨b11, 61, #[.int .i64 S.towers, .int .i64 S.need, .int .i64 S.newest, .string ⟨S.claim.toArray⟩, .slice a2 S.towers c2, .bool S.sl, .int .i64 S.fr, .int .i64 S.to]⟩ : Blk) ∈ CC) := by rw [HCC]; exact List.mem_cons_self ..
              rw [← HCC] at HG15
              clear HCC
              by_cases hno : H.noted = true
              · have hb0 : 0 < H.box.length := by
                  have hn := HGR15.out.nt_iff.1 hno
                  rw [HGR15.out.box, if_pos hn, tbox_len]
                  omega
                refine (newest_yes q H _ w _ _ HG15.out hno (by omega)).mono ?_
                rintro e w16 ⟨u, rfl, hb16, au, cu, NB, rfl, hRw, hNB⟩
                have h16 := HG15.out.row hb16 hRw hNB
                have hcells := hRw.openP (L := []) (w := w16) (w0 := w16) (by rw [List.append_nil]; exact Mem.of_has hRw.apart fun x hx => (hNB x hx).2) hb0
                obtain ⟨r, cu', e1, hcu, hr16, hc16⟩ := hcells
                cases e1
                obtain ⟨cur, rfl⟩ := hRw.blk
                have hz := hc16 0 _ (bcs_get H.box 0 hb0)
                obtain ⟨z, HZ⟩ : ∃ z : Int, Hid (((H.box.getD 0 0).toNat : Int) = z) := ⟨_, rfl⟩
                rw [HZ.out] at hz
                have HG16 := Lib.hid (h16.key #[.int .u8 (by8 H.hint 0), .int .u8 (by8 H.hint 1), .int .u8 (by8 H.hint 2), .int .u8 (by8 H.hint 3), .int .u8 (by8 H.hint 4), .int .u8 (by8 H.hint 5), .int .u8 (by8 H.hint 6), .int .u8 (by8 H.hint 7), .int .i64 H.num, .slice (some ⟨r, 0, none⟩) H.box.length cu] 29 w16.heap.size rfl)
                have hcur0 : cur[0]? = some (.int .u8 z) := by
                  have := (h16.has (b := r) (List.mem_cons_self ..)).cell 0
                  rw [← this]; exact hz
                have HCUR := Lib.hid hcur0
                have hbd : (0 : Int) ≤ z ∧ z ≤ 255 := by
                  rw [← HZ.out]
                  have := (H.box.getD 0 0).toNat_lt
                  omega
                clear h16 hRw hNB hc16 hb16 hz hcur0 HG15
                have hlen : H.box.length ≤ 9223372036854775807 := by omega
                go_wp2_with fail
                refine wp_opq (fun W => Gu W w (⟨r, 5, cur⟩ :: CC) (⟨w16.heap.size, 29, #[.int .u8 (by8 H.hint 0), .int .u8 (by8 H.hint 1), .int .u8 (by8 H.hint 2), .int .u8 (by8 H.hint 3), .int .u8 (by8 H.hint 4), .int .u8 (by8 H.hint 5), .int .u8 (by8 H.hint 6), .int .u8 (by8 H.hint 7), .int .i64 H.num, .slice (some ⟨r, 0, none⟩) H.box.length cu]⟩ :: X7) q H) HG16.out ?_
                intro W17 h17
                have H17 := Lib.hid h17
                clear h17 HG16
                obtain ⟨b13, hb13⟩ : ∃ b13, b13 = w16.heap.size := ⟨_, rfl⟩
                simp only [← hb13] at H17 ⊢
                clear hb13
                refine wp_region_ov (fun L (x : Int) => [(L 0, 123, .pointer (some ⟨b13, 9, none⟩)), (L 1, 124, .slice (some ⟨r, 0, none⟩) H.box.length cu), (L 2, 125, .pointer (some ⟨b13, 9, none⟩)), (L 3, 126, .slice (some ⟨r, 0, none⟩) H.box.length cu), (L 4, 127, .pointer (some ⟨r, 0, none⟩)), (L 5, 128, .int .u8 z), (L 6, 129, .int .u8 x), (L 7, 130, .pointer (some ⟨r, 0, none⟩))])
                  (fun L x W => Gu W w (⟨r, 5, bif L 8 then cur.setIfInBounds 0 (.int .u8 x) else cur⟩ :: CC) (⟨b13, 29, #[.int .u8 (by8 H.hint 0), .int .u8 (by8 H.hint 1), .int .u8 (by8 H.hint 2), .int .u8 (by8 H.hint 3), .int .u8 (by8 H.hint 4), .int .u8 (by8 H.hint 5), .int .u8 (by8 H.hint 6), .int .u8 (by8 H.hint 7), .int .i64 H.num, .slice (some ⟨r, 0, none⟩) H.box.length cu]⟩ :: X7) q H) 0 (by kernel_rfl) (by kernel_rfl) (by rfl) H17.out.drew ?_ ⟨?_, ?_, ?_, ?_, ?_, ?_, ?_, ?_, ?_, trivial⟩
                rotate_left
                iterate 5 (· (intro L x W hW hC hL hd K hK; (try simp [depsB, Region.binds] at hd); (try simp only [Nat.reduceAdd] at hK hL); simp only [ovl, Array.getD_eq_getD_getElem?, List.getElem?_toArray, List.getElem?_cons_succ, List.getElem?_cons_zero, Option.getD_some, List.setIfInBounds_toArray, List.set_cons_zero, List.set_cons_succ]; (try simp only [hd, cond_true, cond_false]); (have hW0 := hW); (have hb9 : HasBlk W b13 29 #[.int .u8 (by8 H.hint 0), .int .u8 (by8 H.hint 1), .int .u8 (by8 H.hint 2), .int .u8 (by8 H.hint 3), .int .u8 (by8 H.hint 4), .int .u8 (by8 H.hint 5), .int .u8 (by8 H.hint 6), .int .u8 (by8 H.hint 7), .int .i64 H.num, .slice (some ⟨r, 0, none⟩) H.box.length cu] := hW.hasX (List.mem_cons_self ..)); (have k9 := hb9.cell 9); (have l9 := hb9.lt); clear hb9 hW; go_simp; (have h := hK x W hW0); simp only [ovl, Array.getD_eq_getD_getElem?, List.getElem?_toArray, List.getElem?_cons_succ, List.getElem?_cons_zero, Option.getD_some, List.setIfInBounds_toArray, List.set_cons_zero, List.set_cons_succ] at h; (try simp (decide := true) only [upd, hd, cond_true, cond_false, Bool.true_or, Bool.false_or, decide_true, decide_false] at h); exact h))
                · intro L x W hW hC hL hd K hK; (try simp [depsB, Region.binds] at hd); (try simp only [Nat.reduceAdd] at hK hL)
                  (have h8 : L 8 = false := by cases hl : L 8 with | false => rfl | true => have hx := hC 8 _ rfl hl; simp [depsB, Region.binds, hL, hd] at hx); (replace hd := And.intro hd h8)
                  simp only [ovl, Array.getD_eq_getD_getElem?, List.getElem?_toArray, List.getElem?_cons_succ, List.getElem?_cons_zero, Option.getD_some, List.setIfInBounds_toArray, List.set_cons_zero, List.set_cons_succ]; (try simp only [hd, cond_true, cond_false])
                  have hW0 := hW
                  simp only [hd, cond_false] at hW
                  have hbr := hW.has (List.mem_cons_self ..)
                  have kr := hbr.cell 0
                  rw [HCUR.out] at kr
                  have lr := hbr.lt
                  clear hbr hW
                  go_simp
                  (have h := hK x W hW0); simp only [ovl, Array.getD_eq_getD_getElem?, List.getElem?_toArray, List.getElem?_cons_succ, List.getElem?_cons_zero, Option.getD_some, List.setIfInBounds_toArray, List.set_cons_zero, List.set_cons_succ] at h; (try simp (decide := true) only [upd, hd, cond_true, cond_false, Bool.true_or, Bool.false_or, decide_true, decide_false] at h); exact h
                · intro L x W hW hC hL hd K hK; (try simp [depsB, Region.binds] at hd); (try simp only [Nat.reduceAdd] at hK hL)
                  (have h8 : L 8 = false := by cases hl : L 8 with | false => rfl | true => have hx := hC 8 _ rfl hl; simp [depsB, Region.binds, hL, hd] at hx); (replace hd := And.intro hd h8)
                  simp only [ovl, Array.getD_eq_getD_getElem?, List.getElem?_toArray, List.getElem?_cons_succ, List.getElem?_cons_zero, Option.getD_some, List.setIfInBounds_toArray, List.set_cons_zero, List.set_cons_succ]; (try simp only [hd, cond_true, cond_false])
                  have hW0 := hW
                  simp only [hd, cond_false] at hW0
                  clear hW
                  go_simp
                  (have h := hK (IntKind.u8.wrap (z + 1)) W (by simpa [upd, hd] using hW0)); simp only [ovl, Array.getD_eq_getD_getElem?, List.getElem?_toArray, List.getElem?_cons_succ, List.getElem?_cons_zero, Option.getD_some, List.setIfInBounds_toArray, List.set_cons_zero, List.set_cons_succ] at h; (try simp (decide := true) only [upd, hd, cond_true, cond_false, Bool.true_or, Bool.false_or, decide_true, decide_false] at h); exact h
                iterate 1 (· (intro L x W hW hC hL hd K hK; (try simp [depsB, Region.binds] at hd); (try simp only [Nat.reduceAdd] at hK hL); simp only [ovl, Array.getD_eq_getD_getElem?, List.getElem?_toArray, List.getElem?_cons_succ, List.getElem?_cons_zero, Option.getD_some, List.setIfInBounds_toArray, List.set_cons_zero, List.set_cons_succ]; (try simp only [hd, cond_true, cond_false]); (have hW0 := hW); (have hbr : HasBlk W r 5 (bif L 8 then cur.setIfInBounds 0 (.int .u8 x) else cur) := hW.has (List.mem_cons_self ..)); (have lr := hbr.lt); clear hbr hW; go_simp; (have h := hK x W hW0); simp only [ovl, Array.getD_eq_getD_getElem?, List.getElem?_toArray, List.getElem?_cons_succ, List.getElem?_cons_zero, Option.getD_some, List.setIfInBounds_toArray, List.set_cons_zero, List.set_cons_succ] at h; (try simp (decide := true) only [upd, hd, cond_true, cond_false, Bool.true_or, Bool.false_or, decide_true, decide_false] at h); exact h))
                · intro L x W hW hC hL hd K hK; (try simp [depsB, Region.binds] at hd); (try simp only [Nat.reduceAdd] at hK hL)
                  simp only [ovl, Array.getD_eq_getD_getElem?, List.getElem?_toArray, List.getElem?_cons_succ, List.getElem?_cons_zero, Option.getD_some, List.setIfInBounds_toArray, List.set_cons_zero, List.set_cons_succ]; (try simp only [hd, cond_true, cond_false])
                  have hW1 := hW
                  simp only [hL, hd, cond_false, cond_true] at hW1
                  have hbr : HasBlk W r 5 cur := hW1.has (List.mem_cons_self ..)
                  have kr := hbr.cell 0
                  rw [HCUR.out] at kr
                  have fr := hbr.frozen 0
                  have hset := hW1.set 0 (.int .u8 x)
                  have hset' := Lib.hid hset
                  clear hbr hW1 hset hW
                  go_simp
                  (have h := hK x _ (by simpa [upd, hd] using hset'.out)); simp only [ovl, Array.getD_eq_getD_getElem?, List.getElem?_toArray, List.getElem?_cons_succ, List.getElem?_cons_zero, Option.getD_some, List.setIfInBounds_toArray, List.set_cons_zero, List.set_cons_succ] at h; (try simp (decide := true) only [upd, hd, cond_true, cond_false, Bool.true_or, Bool.false_or, decide_true, decide_false] at h); exact h
                intro x W18 hW18
                simp only [ovl, cond_true, Array.getD_eq_getD_getElem?, List.getElem?_toArray, List.getElem?_cons_succ, List.getElem?_cons_zero, Option.getD_some, List.setIfInBounds_toArray, List.set_cons_zero, List.set_cons_succ]
                simp only [cond_true] at hW18
                have HG18 := Lib.hid hW18
                clear hW18 H17
                have hb11 : HasBlk W18 b11 61 #[.int .i64 S.towers, .int .i64 S.need, .int .i64 S.newest, .string ⟨S.claim.toArray⟩, .slice a2 S.towers c2, .bool S.sl, .int .i64 S.fr, .int .i64 S.to] := HG18.out.has (List.mem_cons_of_mem _ HCM.out)
                (have z0 := hb11.cell 0); (have z1 := hb11.cell 1); (have z2 := hb11.cell 2); (have z3 := hb11.cell 3); (have z4 := hb11.cell 4); (have z5 := hb11.cell 5); (have z6 := hb11.cell 6); (have z7 := hb11.cell 7)
                have l11 := hb11.lt
                simp only [List.getElem?_toArray, List.getElem?_cons_succ, List.getElem?_cons_zero] at z0 z1 z2 z3 z4 z5 z6 z7
                clear hb11
                go_wp2_with fail
                refine (seen_any 5 _ w _ _ q H S _ HG18.out (HSl15.out.mono fun x hx => List.mem_cons_of_mem _ hx) HGR15.out).mono ?_
                rintro e w17 ⟨rfl, hb17⟩
                have HB := Lib.hid (HG18.out.of_below hb17).below
                clear hb17 HG18
                go_wp2
                go_ret
                exact ⟨rfl, HB.out⟩
              · refine (newest_no q H _ w _ _ HG15.out (by simpa using hno)).mono ?_
                rintro e w16 ⟨rfl, hb16⟩
                have HG16 := Lib.hid ((HG15.out.of_below hb16).alloc (.cells #[.int .u8 0, .int .u8 0, .int .u8 0, .int .u8 0, .int .u8 0, .int .u8 0, .int .u8 0, .int .u8 0, .int .i64 0, .slice none 0 0] 29))
                clear hb16 HG15
                have hb11 : HasBlk _ b11 61 #[.int .i64 S.towers, .int .i64 S.need, .int .i64 S.newest, .string ⟨S.claim.toArray⟩, .slice a2 S.towers c2, .bool S.sl, .int .i64 S.fr, .int .i64 S.to] := HG16.out.has HCM.out
                (have z0 := hb11.cell 0); (have z1 := hb11.cell 1); (have z2 := hb11.cell 2); (have z3 := hb11.cell 3); (have z4 := hb11.cell 4); (have z5 := hb11.cell 5); (have z6 := hb11.cell 6); (have z7 := hb11.cell 7)
                have l11 := hb11.lt
                simp only [List.getElem?_toArray, List.getElem?_cons_succ, List.getElem?_cons_zero] at z0 z1 z2 z3 z4 z5 z6 z7
                clear hb11
                go_wp2_with fail
                refine (seen_any 5 _ w _ _ q H S _ HG16.out HSl15.out HGR15.out).mono ?_
                rintro e w17 ⟨rfl, hb17⟩
                have HB := Lib.hid (HG16.out.of_below hb17).below
                clear hb17 HG16
                go_wp2
                go_ret
                exact ⟨rfl, HB.out⟩
            · go_wp2_with fail
              obtain ⟨CC, HCC⟩ : ∃ CC : List Blk, CC = (⟨b11, 61, #[.int .i64 S.towers, .int .i64 S.need, .int .i64 S.newest, .string ⟨S.claim.toArray⟩, .slice a2 S.towers c2, .bool S.sl, .int .i64 S.fr, .int .i64 S.to]⟩ :: [⟨p, 132, gcs G vp⟩, ⟨b8, 61, #[.int .i64 R.towers, .int .i64 R.need, .int .i64 R.newest, .string ⟨R.claim.toArray⟩, .slice ah R.towers ch, .bool R.sl, .int .i64 R.fr, .int .i64 R.to]⟩]) := ⟨_, rfl⟩
              have HCM : Hid ((⟨b11, 61, #[.int .i64 S.towers, .int .i64 S.need, .int .i64 S.newest, .string ⟨S.claim.toArray⟩, .slice a2 S.towers c2, .bool S.sl, .int .i64 S.fr, .int .i64 S.to]⟩ : Blk) ∈ CC) := by rw [HCC]; exact List.mem_cons_self ..
              rw [← HCC] at HG15
              clear HCC
              by_cases hno : H.noted = true
              · have hb0 : 0 < H.box.length := by
                  have hn := HGR15.out.nt_iff.1 hno
                  rw [HGR15.out.box, if_pos hn, tbox_len]
                  omega
                refine (newest_yes q H _ w _ _ HG15.out hno (by omega)).mono ?_
                rintro e w16 ⟨u, rfl, hb16, au, cu, NB, rfl, hRw, hNB⟩
                have h16 := HG15.out.row hb16 hRw hNB
                have hcells := hRw.openP (L := []) (w := w16) (w0 := w16) (by rw [List.append_nil]; exact Mem.of_has hRw.apart fun x hx => (hNB x hx).2) hb0
                obtain ⟨r, cu', e1, hcu, hr16, hc16⟩ := hcells
                cases e1
                obtain ⟨cur, rfl⟩ := hRw.blk
                have hz := hc16 0 _ (bcs_get H.box 0 hb0)
                obtain ⟨z, HZ⟩ : ∃ z : Int, Hid (((H.box.getD 0 0).toNat : Int) = z) := ⟨_, rfl⟩
                rw [HZ.out] at hz
                have HG16 := Lib.hid (h16.key #[.int .u8 (by8 H.hint 0), .int .u8 (by8 H.hint 1), .int .u8 (by8 H.hint 2), .int .u8 (by8 H.hint 3), .int .u8 (by8 H.hint 4), .int .u8 (by8 H.hint 5), .int .u8 (by8 H.hint 6), .int .u8 (by8 H.hint 7), .int .i64 H.num, .slice (some ⟨r, 0, none⟩) H.box.length cu] 29 w16.heap.size rfl)
                have hcur0 : cur[0]? = some (.int .u8 z) := by
                  have := (h16.has (b := r) (List.mem_cons_self ..)).cell 0
                  rw [← this]; exact hz
                have HCUR := Lib.hid hcur0
                have hbd : (0 : Int) ≤ z ∧ z ≤ 255 := by
                  rw [← HZ.out]
                  have := (H.box.getD 0 0).toNat_lt
                  omega
                clear h16 hRw hNB hc16 hb16 hz hcur0 HG15
                have hlen : H.box.length ≤ 9223372036854775807 := by omega
                go_wp2_with fail
                refine wp_opq (fun W => Gu W w (⟨r, 5, cur⟩ :: CC) (⟨w16.heap.size, 29, #[.int .u8 (by8 H.hint 0), .int .u8 (by8 H.hint 1), .int .u8 (by8 H.hint 2), .int .u8 (by8 H.hint 3), .int .u8 (by8 H.hint 4), .int .u8 (by8 H.hint 5), .int .u8 (by8 H.hint 6), .int .u8 (by8 H.hint 7), .int .i64 H.num, .slice (some ⟨r, 0, none⟩) H.box.length cu]⟩ :: X7) q H) HG16.out ?_
                intro W17 h17
                have H17 := Lib.hid h17
                clear h17 HG16
                obtain ⟨b13, hb13⟩ : ∃ b13, b13 = w16.heap.size := ⟨_, rfl⟩
                simp only [← hb13] at H17 ⊢
                clear hb13
                refine wp_region_ov (fun L (x : Int) => [(L 0, 123, .pointer (some ⟨b13, 9, none⟩)), (L 1, 124, .slice (some ⟨r, 0, none⟩) H.box.length cu), (L 2, 125, .pointer (some ⟨b13, 9, none⟩)), (L 3, 126, .slice (some ⟨r, 0, none⟩) H.box.length cu), (L 4, 127, .pointer (some ⟨r, 0, none⟩)), (L 5, 128, .int .u8 z), (L 6, 129, .int .u8 x), (L 7, 130, .pointer (some ⟨r, 0, none⟩))])
                  (fun L x W => Gu W w (⟨r, 5, bif L 8 then cur.setIfInBounds 0 (.int .u8 x) else cur⟩ :: CC) (⟨b13, 29, #[.int .u8 (by8 H.hint 0), .int .u8 (by8 H.hint 1), .int .u8 (by8 H.hint 2), .int .u8 (by8 H.hint 3), .int .u8 (by8 H.hint 4), .int .u8 (by8 H.hint 5), .int .u8 (by8 H.hint 6), .int .u8 (by8 H.hint 7), .int .i64 H.num, .slice (some ⟨r, 0, none⟩) H.box.length cu]⟩ :: X7) q H) 0 (by kernel_rfl) (by kernel_rfl) (by rfl) H17.out.drew ?_ ⟨?_, ?_, ?_, ?_, ?_, ?_, ?_, ?_, ?_, trivial⟩
                rotate_left
                iterate 5 (· (intro L x W hW hC hL hd K hK; (try simp [depsB, Region.binds] at hd); (try simp only [Nat.reduceAdd] at hK hL); simp only [ovl, Array.getD_eq_getD_getElem?, List.getElem?_toArray, List.getElem?_cons_succ, List.getElem?_cons_zero, Option.getD_some, List.setIfInBounds_toArray, List.set_cons_zero, List.set_cons_succ]; (try simp only [hd, cond_true, cond_false]); (have hW0 := hW); (have hb9 : HasBlk W b13 29 #[.int .u8 (by8 H.hint 0), .int .u8 (by8 H.hint 1), .int .u8 (by8 H.hint 2), .int .u8 (by8 H.hint 3), .int .u8 (by8 H.hint 4), .int .u8 (by8 H.hint 5), .int .u8 (by8 H.hint 6), .int .u8 (by8 H.hint 7), .int .i64 H.num, .slice (some ⟨r, 0, none⟩) H.box.length cu] := hW.hasX (List.mem_cons_self ..)); (have k9 := hb9.cell 9); (have l9 := hb9.lt); clear hb9 hW; go_simp; (have h := hK x W hW0); simp only [ovl, Array.getD_eq_getD_getElem?, List.getElem?_toArray, List.getElem?_cons_succ, List.getElem?_cons_zero, Option.getD_some, List.setIfInBounds_toArray, List.set_cons_zero, List.set_cons_succ] at h; (try simp (decide := true) only [upd, hd, cond_true, cond_false, Bool.true_or, Bool.false_or, decide_true, decide_false] at h); exact h))
                · intro L x W hW hC hL hd K hK; (try simp [depsB, Region.binds] at hd); (try simp only [Nat.reduceAdd] at hK hL)
                  (have h8 : L 8 = false := by cases hl : L 8 with | false => rfl | true => have hx := hC 8 _ rfl hl; simp [depsB, Region.binds, hL, hd] at hx); (replace hd := And.intro hd h8)
                  simp only [ovl, Array.getD_eq_getD_getElem?, List.getElem?_toArray, List.getElem?_cons_succ, List.getElem?_cons_zero, Option.getD_some, List.setIfInBounds_toArray, List.set_cons_zero, List.set_cons_succ]; (try simp only [hd, cond_true, cond_false])
                  have hW0 := hW
                  simp only [hd, cond_false] at hW
                  have hbr := hW.has (List.mem_cons_self ..)
                  have kr := hbr.cell 0
                  rw [HCUR.out] at kr
                  have lr := hbr.lt
                  clear hbr hW
                  go_simp
                  (have h := hK x W hW0); simp only [ovl, Array.getD_eq_getD_getElem?, List.getElem?_toArray, List.getElem?_cons_succ, List.getElem?_cons_zero, Option.getD_some, List.setIfInBounds_toArray, List.set_cons_zero, List.set_cons_succ] at h; (try simp (decide := true) only [upd, hd, cond_true, cond_false, Bool.true_or, Bool.false_or, decide_true, decide_false] at h); exact h
                · intro L x W hW hC hL hd K hK; (try simp [depsB, Region.binds] at hd); (try simp only [Nat.reduceAdd] at hK hL)
                  (have h8 : L 8 = false := by cases hl : L 8 with | false => rfl | true => have hx := hC 8 _ rfl hl; simp [depsB, Region.binds, hL, hd] at hx); (replace hd := And.intro hd h8)
                  simp only [ovl, Array.getD_eq_getD_getElem?, List.getElem?_toArray, List.getElem?_cons_succ, List.getElem?_cons_zero, Option.getD_some, List.setIfInBounds_toArray, List.set_cons_zero, List.set_cons_succ]; (try simp only [hd, cond_true, cond_false])
                  have hW0 := hW
                  simp only [hd, cond_false] at hW0
                  clear hW
                  go_simp
                  (have h := hK (IntKind.u8.wrap (z + 1)) W (by simpa [upd, hd] using hW0)); simp only [ovl, Array.getD_eq_getD_getElem?, List.getElem?_toArray, List.getElem?_cons_succ, List.getElem?_cons_zero, Option.getD_some, List.setIfInBounds_toArray, List.set_cons_zero, List.set_cons_succ] at h; (try simp (decide := true) only [upd, hd, cond_true, cond_false, Bool.true_or, Bool.false_or, decide_true, decide_false] at h); exact h
                iterate 1 (· (intro L x W hW hC hL hd K hK; (try simp [depsB, Region.binds] at hd); (try simp only [Nat.reduceAdd] at hK hL); simp only [ovl, Array.getD_eq_getD_getElem?, List.getElem?_toArray, List.getElem?_cons_succ, List.getElem?_cons_zero, Option.getD_some, List.setIfInBounds_toArray, List.set_cons_zero, List.set_cons_succ]; (try simp only [hd, cond_true, cond_false]); (have hW0 := hW); (have hbr : HasBlk W r 5 (bif L 8 then cur.setIfInBounds 0 (.int .u8 x) else cur) := hW.has (List.mem_cons_self ..)); (have lr := hbr.lt); clear hbr hW; go_simp; (have h := hK x W hW0); simp only [ovl, Array.getD_eq_getD_getElem?, List.getElem?_toArray, List.getElem?_cons_succ, List.getElem?_cons_zero, Option.getD_some, List.setIfInBounds_toArray, List.set_cons_zero, List.set_cons_succ] at h; (try simp (decide := true) only [upd, hd, cond_true, cond_false, Bool.true_or, Bool.false_or, decide_true, decide_false] at h); exact h))
                · intro L x W hW hC hL hd K hK; (try simp [depsB, Region.binds] at hd); (try simp only [Nat.reduceAdd] at hK hL)
                  simp only [ovl, Array.getD_eq_getD_getElem?, List.getElem?_toArray, List.getElem?_cons_succ, List.getElem?_cons_zero, Option.getD_some, List.setIfInBounds_toArray, List.set_cons_zero, List.set_cons_succ]; (try simp only [hd, cond_true, cond_false])
                  have hW1 := hW
                  simp only [hL, hd, cond_false, cond_true] at hW1
                  have hbr : HasBlk W r 5 cur := hW1.has (List.mem_cons_self ..)
                  have kr := hbr.cell 0
                  rw [HCUR.out] at kr
                  have fr := hbr.frozen 0
                  have hset := hW1.set 0 (.int .u8 x)
                  have hset' := Lib.hid hset
                  clear hbr hW1 hset hW
                  go_simp
                  (have h := hK x _ (by simpa [upd, hd] using hset'.out)); simp only [ovl, Array.getD_eq_getD_getElem?, List.getElem?_toArray, List.getElem?_cons_succ, List.getElem?_cons_zero, Option.getD_some, List.setIfInBounds_toArray, List.set_cons_zero, List.set_cons_succ] at h; (try simp (decide := true) only [upd, hd, cond_true, cond_false, Bool.true_or, Bool.false_or, decide_true, decide_false] at h); exact h
                intro x W18 hW18
                simp only [ovl, cond_true, Array.getD_eq_getD_getElem?, List.getElem?_toArray, List.getElem?_cons_succ, List.getElem?_cons_zero, Option.getD_some, List.setIfInBounds_toArray, List.set_cons_zero, List.set_cons_succ]
                simp only [cond_true] at hW18
                have HG18 := Lib.hid hW18
                clear hW18 H17
                have hb11 : HasBlk W18 b11 61 #[.int .i64 S.towers, .int .i64 S.need, .int .i64 S.newest, .string ⟨S.claim.toArray⟩, .slice a2 S.towers c2, .bool S.sl, .int .i64 S.fr, .int .i64 S.to] := HG18.out.has (List.mem_cons_of_mem _ HCM.out)
                (have z0 := hb11.cell 0); (have z1 := hb11.cell 1); (have z2 := hb11.cell 2); (have z3 := hb11.cell 3); (have z4 := hb11.cell 4); (have z5 := hb11.cell 5); (have z6 := hb11.cell 6); (have z7 := hb11.cell 7)
                have l11 := hb11.lt
                simp only [List.getElem?_toArray, List.getElem?_cons_succ, List.getElem?_cons_zero] at z0 z1 z2 z3 z4 z5 z6 z7
                clear hb11
                go_wp2_with fail
                refine (seen_any 5 _ w _ _ q H S _ HG18.out (HSl15.out.mono fun x hx => List.mem_cons_of_mem _ hx) HGR15.out).mono ?_
                rintro e w17 ⟨rfl, hb17⟩
                have HB := Lib.hid (HG18.out.of_below hb17).below
                clear hb17 HG18
                go_wp2
                go_ret
                exact ⟨rfl, HB.out⟩
              · refine (newest_no q H _ w _ _ HG15.out (by simpa using hno)).mono ?_
                rintro e w16 ⟨rfl, hb16⟩
                have HG16 := Lib.hid ((HG15.out.of_below hb16).alloc (.cells #[.int .u8 0, .int .u8 0, .int .u8 0, .int .u8 0, .int .u8 0, .int .u8 0, .int .u8 0, .int .u8 0, .int .i64 0, .slice none 0 0] 29))
                clear hb16 HG15
                have hb11 : HasBlk _ b11 61 #[.int .i64 S.towers, .int .i64 S.need, .int .i64 S.newest, .string ⟨S.claim.toArray⟩, .slice a2 S.towers c2, .bool S.sl, .int .i64 S.fr, .int .i64 S.to] := HG16.out.has HCM.out
                (have z0 := hb11.cell 0); (have z1 := hb11.cell 1); (have z2 := hb11.cell 2); (have z3 := hb11.cell 3); (have z4 := hb11.cell 4); (have z5 := hb11.cell 5); (have z6 := hb11.cell 6); (have z7 := hb11.cell 7)
                have l11 := hb11.lt
                simp only [List.getElem?_toArray, List.getElem?_cons_succ, List.getElem?_cons_zero] at z0 z1 z2 z3 z4 z5 z6 z7
                clear hb11
                go_wp2_with fail
                refine (seen_any 5 _ w _ _ q H S _ HG16.out HSl15.out HGR15.out).mono ?_
                rintro e w17 ⟨rfl, hb17⟩
                have HB := Lib.hid (HG16.out.of_below hb17).below
                clear hb17 HG16
                go_wp2
                go_ret
                exact ⟨rfl, HB.out⟩
      · go_wp2_with fail
        have T := gclone_to p G W6 w _ X H6.out (by omega)
        refine T.mono ?_
        rintro e w6 ⟨q, rfl, X6, hs6, g6⟩
        have heq := gptr_ne g6
        have HG6 := Lib.hid g6
        have HS6 := Lib.hid (HSl5.out.mono hs6)
        clear g6 hs6
        go_wp2_with fail
        refine (HG6.out.swap.same true (sameG_self G)).mono ?_
        rintro e w7 ⟨rfl, hb7⟩
        have HG7 := Lib.hid (HG6.out.of_below hb7)
        clear hb7 HG6
        go_wp2_with fail
        refine (HG7.out.same true (sameG_self G)).mono ?_
        rintro e w8 ⟨rfl, hb8⟩
        have HG8 := Lib.hid (HG7.out.of_below hb8)
        clear hb8 HG7
        go_wp2_with fail
        refine (gsame_pn p w8).mono ?_
        rintro e w9 ⟨rfl, rfl⟩
        have hb4 : HasBlk w9 b8 61 #[.int .i64 R.towers, .int .i64 R.need, .int .i64 R.newest, .string ⟨R.claim.toArray⟩, .slice ah R.towers ch, .bool R.sl, .int .i64 R.fr, .int .i64 R.to] := HG8.out.has (by simp)
        (have y0 := hb4.cell 0); (have y1 := hb4.cell 1); (have y2 := hb4.cell 2); (have y3 := hb4.cell 3); (have y4 := hb4.cell 4); (have y5 := hb4.cell 5); (have y6 := hb4.cell 6); (have y7 := hb4.cell 7)
        have l4 := hb4.lt
        simp only [List.getElem?_toArray, List.getElem?_cons_succ, List.getElem?_cons_zero] at y0 y1 y2 y3 y4 y5 y6 y7
        obtain ⟨vp, g8, mp⟩ := HG8.out.swap.one
        have HMp := Lib.hid mp
        have HG9 := Lib.hid (g8.park (cs := #[.int .i64 R.towers, .int .i64 R.need, .int .i64 R.newest, .string ⟨R.claim.toArray⟩, .slice ah R.towers ch, .bool R.sl, .int .i64 R.fr, .int .i64 R.to]) (t := 61) (b := w9.heap.size) rfl)
        clear hb4 g8 mp HG8 H6
        go_wp2_with fail
        obtain ⟨b11, hb11⟩ : ∃ b11, b11 = w9.heap.size := ⟨_, rfl⟩
        rw [← hb11] at HG9
        simp only [← hb11]
        clear hb11 y0 y1 y2 y3 y4 y5 y6 y7 l4 heq
        go_loopw [12] (fun vi wr => ∃ (k2 : Nat) (H : GS) (S : RS) (a2 : Option Addr) (c2 : Nat) (X : List Blk), vi = .int .i64 k2 ∧ k2 ≤ m2 ∧ k2 ≤ 30 ∧ Sub X6 X ∧ Gu wr w (⟨b11, 61, #[.int .i64 S.towers, .int .i64 S.need, .int .i64 S.newest, .string ⟨S.claim.toArray⟩, .slice a2 S.towers c2, .bool S.sl, .int .i64 S.fr, .int .i64 S.to]⟩ :: [⟨p, 132, gcs G vp⟩, ⟨b8, 61, #[.int .i64 R.towers, .int .i64 R.need, .int .i64 R.newest, .string ⟨R.claim.toArray⟩, .slice ah R.towers ch, .bool R.sl, .int .i64 R.fr, .int .i64 R.to]⟩]) X q H ∧ Sl w X (.slice a2 S.towers c2) S.towers (ics S.has) ∧ GR H S) (fun i _ => m2 - (intOf i).toNat)
        case atStart => exact ⟨0, G, R, ah, ch, X6, rfl, by omega, by omega, Sub.refl _, HG9.out, HS6.out, HGR5.out⟩
        case round =>
          obtain ⟨k2, H, S, a2, c2, X7, rfl, hk2, hk230, hsX, g5, sl5, gr5⟩ := hrel
          have HG15 := Lib.hid g5
          have HSl15 := Lib.hid sl5
          have HGR15 := Lib.hid gr5
          have HsX := Lib.hid hsX
          clear g5 sl5 gr5 hsX
          by_cases hgo2 : k2 < m2 ∧ k2 < 30
          · obtain ⟨hlt, hlt30⟩ := hgo2
            obtain ⟨Y, O, hY, -⟩ := HG15.out.ow
            obtain ⟨r, o, rfl, hr, hc⟩ := HV2.out.at_ O k2 hlt
            have ok := HF2.out k2 hlt
            obtain ⟨⟨kd, wh, on, om, ob, ol, ov⟩, HFk⟩ : ∃ y, Hid (F2 k2 = y) := ⟨_, rfl⟩
            rw [HFk.out] at ok
            obtain ⟨ac, cc, e1⟩ := ok.slice
            have hcc := ok.slice2
            simp only at e1
            subst e1
            have hcc : ol.length ≤ cc := hcc _ _ rfl
            have HOK := Lib.hid ok
            clear hc ok O hY
            go_wp2_with fail
            refine wp_region_ov (fun L (x : GS × RS × Value) => [(L 0, 83, ptr q), (L 1, 84, .agg #[.int .i64 S.towers, .int .i64 S.need, .int .i64 S.newest, .string ⟨S.claim.toArray⟩, .slice a2 S.towers c2, .bool S.sl, .int .i64 S.fr, .int .i64 S.to]), (L 2, 85, .slice (some ⟨r, o, none⟩) m2 cap2), (L 3, 86, .int .i64 k2), (L 4, 87, .pointer (some ⟨r, o + k2 * 6, none⟩)), (L 5, 88, .agg #[.int .i64 kd, .int .i64 wh, .int .i64 on, .int .i64 om, .int .i64 ob, .slice ac ol.length cc]), (L 6, 89, .tuple #[.agg #[.int .i64 x.2.1.towers, .int .i64 x.2.1.need, .int .i64 x.2.1.newest, .string ⟨x.2.1.claim.toArray⟩, x.2.2, .bool x.2.1.sl, .int .i64 x.2.1.fr, .int .i64 x.2.1.to], .bool true]), (L 7, 82, .tuple #[.agg #[.int .i64 x.2.1.towers, .int .i64 x.2.1.need, .int .i64 x.2.1.newest, .string ⟨x.2.1.claim.toArray⟩, x.2.2, .bool x.2.1.sl, .int .i64 x.2.1.fr, .int .i64 x.2.1.to], .bool true]), (L 8, 90, .agg #[.int .i64 x.2.1.towers, .int .i64 x.2.1.need, .int .i64 x.2.1.newest, .string ⟨x.2.1.claim.toArray⟩, x.2.2, .bool x.2.1.sl, .int .i64 x.2.1.fr, .int .i64 x.2.1.to]), (L 9, 91, .bool true)])
              (fun L x W => ∃ X4, Sub X7 X4 ∧ Gu W w (⟨b11, 61, bif L 10 then #[.int .i64 x.2.1.towers, .int .i64 x.2.1.need, .int .i64 x.2.1.newest, .string ⟨x.2.1.claim.toArray⟩, x.2.2, .bool x.2.1.sl, .int .i64 x.2.1.fr, .int .i64 x.2.1.to] else #[.int .i64 S.towers, .int .i64 S.need, .int .i64 S.newest, .string ⟨S.claim.toArray⟩, .slice a2 S.towers c2, .bool S.sl, .int .i64 S.fr, .int .i64 S.to]⟩ :: [⟨p, 132, gcs G vp⟩, ⟨b8, 61, #[.int .i64 R.towers, .int .i64 R.need, .int .i64 R.newest, .string ⟨R.claim.toArray⟩, .slice ah R.towers ch, .bool R.sl, .int .i64 R.fr, .int .i64 R.to]⟩]) X4 q (bif L 6 then x.1 else H) ∧ (L 6 = true → Sl w X4 x.2.2 x.2.1.towers (ics x.2.1.has) ∧ GR x.1 x.2.1)) (H, S, undef) (by kernel_rfl) (by kernel_rfl) (by rfl) ⟨X7, Sub.refl _, HG15.out.drew, fun h => by simp at h⟩ ?_ ⟨?_, ?_, ?_, ?_, ?_, ?_, ?_, ?_, ?_, ?_, ?_, trivial⟩
            rotate_left
            iterate 1 (· (intro L x W hW hC hL hd K hK; (try simp [depsB, Region.binds] at hd); (try simp only [Nat.reduceAdd] at hK hL); simp only [ovl, Array.getD_eq_getD_getElem?, List.getElem?_toArray, List.getElem?_cons_succ, List.getElem?_cons_zero, Option.getD_some, List.setIfInBounds_toArray, List.set_cons_zero, List.set_cons_succ]; (try simp only [hd, cond_true, cond_false]); (have hW0 := hW); (obtain ⟨X4, hs4, g4, hm4⟩ := hW); (obtain ⟨Y4, O4, hX4, hC4⟩ := g4.ow); (obtain ⟨r', o', e4, hr4, hc4⟩ := HV2.out.at_ O4 k2 hlt); cases e4; (rw [HFk.out] at hc4); (have c0 := hc4 0 _ rfl); (rw [← Nat.add_assoc] at c0); (have c1 := hc4 1 _ rfl); (rw [← Nat.add_assoc] at c1); (have c2 := hc4 2 _ rfl); (rw [← Nat.add_assoc] at c2); (have c3 := hc4 3 _ rfl); (rw [← Nat.add_assoc] at c3); (have c4 := hc4 4 _ rfl); (rw [← Nat.add_assoc] at c4); (have c5 := hc4 5 _ rfl); (rw [← Nat.add_assoc] at c5); (rw [Nat.add_zero] at c0); clear hs4 g4 hm4 hc4 O4 hX4 hC4; go_simp; (have h := hK x W hW0); simp only [ovl, Array.getD_eq_getD_getElem?, List.getElem?_toArray, List.getElem?_cons_succ, List.getElem?_cons_zero, Option.getD_some, List.setIfInBounds_toArray, List.set_cons_zero, List.set_cons_succ] at h; (try simp (decide := true) only [upd, hd, cond_true, cond_false, Bool.true_or, Bool.false_or, decide_true, decide_false] at h); exact h))
            · intro L x W hW hC hL hd K hK; (try simp [depsB, Region.binds] at hd); (try simp only [Nat.reduceAdd] at hK hL)
              (have h10 : L 10 = false := by cases hl : L 10 with | false => rfl | true => have hx := hC 10 _ rfl hl; simp [depsB, Region.binds, hL, hd] at hx); (replace hd := And.intro hd h10)
              have hW0 := hW
              simp only [hL, hd, cond_false] at hW
              simp only [ovl, Array.getD_eq_getD_getElem?, List.getElem?_toArray, List.getElem?_cons_succ, List.getElem?_cons_zero, Option.getD_some, List.setIfInBounds_toArray, List.set_cons_zero, List.set_cons_succ]; (try simp only [hd, cond_true, cond_false])
              obtain ⟨X4, hs4, g4, hm4⟩ := hW
              have hb6 : HasBlk W b11 61 #[.int .i64 S.towers, .int .i64 S.need, .int .i64 S.newest, .string ⟨S.claim.toArray⟩, .slice a2 S.towers c2, .bool S.sl, .int .i64 S.fr, .int .i64 S.to] := g4.has (List.mem_cons_self ..)
              (have d0 := hb6.cell 0); (have d1 := hb6.cell 1); (have d2 := hb6.cell 2); (have d3 := hb6.cell 3); (have d4 := hb6.cell 4); (have d5 := hb6.cell 5); (have d6 := hb6.cell 6); (have d7 := hb6.cell 7)
              have l6 := hb6.lt
              clear hb6 g4 hm4 hs4
              go_simp
              (have h := hK x W hW0); simp only [ovl, Array.getD_eq_getD_getElem?, List.getElem?_toArray, List.getElem?_cons_succ, List.getElem?_cons_zero, Option.getD_some, List.setIfInBounds_toArray, List.set_cons_zero, List.set_cons_succ] at h; (try simp (decide := true) only [upd, hd, cond_true, cond_false, Bool.true_or, Bool.false_or, decide_true, decide_false] at h); exact h
            iterate 4 (· (intro L x W hW hC hL hd K hK; (try simp [depsB, Region.binds] at hd); (try simp only [Nat.reduceAdd] at hK hL); simp only [ovl, Array.getD_eq_getD_getElem?, List.getElem?_toArray, List.getElem?_cons_succ, List.getElem?_cons_zero, Option.getD_some, List.setIfInBounds_toArray, List.set_cons_zero, List.set_cons_succ]; (try simp only [hd, cond_true, cond_false]); (have hW0 := hW); (obtain ⟨X4, hs4, g4, hm4⟩ := hW); (obtain ⟨Y4, O4, hX4, hC4⟩ := g4.ow); (obtain ⟨r', o', e4, hr4, hc4⟩ := HV2.out.at_ O4 k2 hlt); cases e4; (rw [HFk.out] at hc4); (have c0 := hc4 0 _ rfl); (rw [← Nat.add_assoc] at c0); (have c1 := hc4 1 _ rfl); (rw [← Nat.add_assoc] at c1); (have c2 := hc4 2 _ rfl); (rw [← Nat.add_assoc] at c2); (have c3 := hc4 3 _ rfl); (rw [← Nat.add_assoc] at c3); (have c4 := hc4 4 _ rfl); (rw [← Nat.add_assoc] at c4); (have c5 := hc4 5 _ rfl); (rw [← Nat.add_assoc] at c5); (rw [Nat.add_zero] at c0); clear hs4 g4 hm4 hc4 O4 hX4 hC4; go_simp; (have h := hK x W hW0); simp only [ovl, Array.getD_eq_getD_getElem?, List.getElem?_toArray, List.getElem?_cons_succ, List.getElem?_cons_zero, Option.getD_some, List.setIfInBounds_toArray, List.set_cons_zero, List.set_cons_succ] at h; (try simp (decide := true) only [upd, hd, cond_true, cond_false, Bool.true_or, Bool.false_or, decide_true, decide_false] at h); exact h))
            · intro L x W hW hC hL hd K hK; (try simp [depsB, Region.binds] at hd); (try simp only [Nat.reduceAdd] at hK hL)
              (have h7 : L 7 = false := by cases hl : L 7 with | false => rfl | true => have hx := hC 7 _ rfl hl; simp [depsB, Region.binds, hL, hd] at hx); (replace hd := And.intro hd h7); (have h8 : L 8 = false := by cases hl : L 8 with | false => rfl | true => have hx := hC 8 _ rfl hl; simp [depsB, Region.binds, hL, hd] at hx); (replace hd := And.intro hd h8); (have h10 : L 10 = false := by cases hl : L 10 with | false => rfl | true => have hx := hC 10 _ rfl hl; simp [depsB, Region.binds, hL, hd] at hx); (replace hd := And.intro hd h10)
              simp only [hL, hd, cond_false] at hW
              simp only [ovl, Array.getD_eq_getD_getElem?, List.getElem?_toArray, List.getElem?_cons_succ, List.getElem?_cons_zero, Option.getD_some, List.setIfInBounds_toArray, List.set_cons_zero, List.set_cons_succ]; (try simp only [hd, cond_true, cond_false])
              obtain ⟨X4, hs4, g4, -⟩ := hW
              refine wp_call_in 48 (by rfl) (by kernel_rfl) #[ptr q, .agg #[.int .i64 S.towers, .int .i64 S.need, .int .i64 S.newest, .string ⟨S.claim.toArray⟩, .slice a2 S.towers c2, .bool S.sl, .int .i64 S.fr, .int .i64 S.to], .agg #[.int .i64 kd, .int .i64 wh, .int .i64 on, .int .i64 om, .int .i64 ob, .slice ac ol.length cc]] (by (simp only [List.map_toArray, List.map_cons, List.map_nil, Act.eval, Array.getD_eq_getD_getElem?, List.getElem?_toArray, List.getElem?_cons_succ, List.getElem?_cons_zero, Option.getD_some])) ((do_any kd wh on om ob ac cc ol hcc W w _ X4 q H S _ g4 (HSl15.out.mono hs4) HGR15.out (HOK.out.mono fun x hx => by cases hx)).mono ?_)
              rintro e W4 ⟨G4, R4, v4, X5, rfl, hs5, g5, sl5, gr5⟩
              refine ⟨_, rfl, ?_⟩
              (have h := hK (G4, R4, v4) W4 ⟨X5, hs4.trans hs5, by simpa (decide := true) only [upd, hd, hL, cond_true, cond_false, Bool.true_or, Bool.false_or, decide_true, decide_false] using g5, fun _ => ⟨sl5, gr5⟩⟩); simp only [ovl, Array.getD_eq_getD_getElem?, List.getElem?_toArray, List.getElem?_cons_succ, List.getElem?_cons_zero, Option.getD_some, List.setIfInBounds_toArray, List.set_cons_zero, List.set_cons_succ] at h; (try simp (decide := true) only [upd, hd, cond_true, cond_false, Bool.true_or, Bool.false_or, decide_true, decide_false] at h); exact h
            iterate 3 (· (intro L x W hW hC hL hd K hK; (try simp [depsB, Region.binds] at hd); (try simp only [Nat.reduceAdd] at hK hL); simp only [ovl, Array.getD_eq_getD_getElem?, List.getElem?_toArray, List.getElem?_cons_succ, List.getElem?_cons_zero, Option.getD_some, List.setIfInBounds_toArray, List.set_cons_zero, List.set_cons_succ]; (try simp only [hd, cond_true, cond_false]); (have hW0 := hW); (obtain ⟨X4, hs4, g4, hm4⟩ := hW); (obtain ⟨Y4, O4, hX4, hC4⟩ := g4.ow); (obtain ⟨r', o', e4, hr4, hc4⟩ := HV2.out.at_ O4 k2 hlt); cases e4; (rw [HFk.out] at hc4); (have c0 := hc4 0 _ rfl); (rw [← Nat.add_assoc] at c0); (have c1 := hc4 1 _ rfl); (rw [← Nat.add_assoc] at c1); (have c2 := hc4 2 _ rfl); (rw [← Nat.add_assoc] at c2); (have c3 := hc4 3 _ rfl); (rw [← Nat.add_assoc] at c3); (have c4 := hc4 4 _ rfl); (rw [← Nat.add_assoc] at c4); (have c5 := hc4 5 _ rfl); (rw [← Nat.add_assoc] at c5); (rw [Nat.add_zero] at c0); clear hs4 g4 hm4 hc4 O4 hX4 hC4; go_simp; (have h := hK x W hW0); simp only [ovl, Array.getD_eq_getD_getElem?, List.getElem?_toArray, List.getElem?_cons_succ, List.getElem?_cons_zero, Option.getD_some, List.setIfInBounds_toArray, List.set_cons_zero, List.set_cons_succ] at h; (try simp (decide := true) only [upd, hd, cond_true, cond_false, Bool.true_or, Bool.false_or, decide_true, decide_false] at h); exact h))
            · intro L x W hW hC hL hd K hK; (try simp [depsB, Region.binds] at hd); (try simp only [Nat.reduceAdd] at hK hL)
              simp only [hL, hd, cond_false, cond_true] at hW
              simp only [ovl, Array.getD_eq_getD_getElem?, List.getElem?_toArray, List.getElem?_cons_succ, List.getElem?_cons_zero, Option.getD_some, List.setIfInBounds_toArray, List.set_cons_zero, List.set_cons_succ]; (try simp only [hd, cond_true, cond_false])
              obtain ⟨X4, hs4, g4, hm4⟩ := hW
              have h1 : x.2.2.oneCell' = true := by
                obtain ⟨a, c, e, -⟩ := (hm4 trivial).1.slice
                rw [e]; rfl
              refine g4.store 61 (.tmp 11) (.tmp 90) (by rfl) (by rfl) #[.int .i64 x.2.1.towers, .int .i64 x.2.1.need, .int .i64 x.2.1.newest, .string ⟨x.2.1.claim.toArray⟩, x.2.2, .bool x.2.1.sl, .int .i64 x.2.1.fr, .int .i64 x.2.1.to] (by rfl) (by kernel_rfl) (by rfl) (rg_one _ _ h1) (fun W5 g5 => ?_)
              (have h := hK x W5 ⟨X4, hs4, by simpa (decide := true) only [upd, hd, hL, cond_true, cond_false, Bool.true_or, Bool.false_or, decide_true, decide_false] using g5, fun _ => hm4 trivial⟩); simp only [ovl, Array.getD_eq_getD_getElem?, List.getElem?_toArray, List.getElem?_cons_succ, List.getElem?_cons_zero, Option.getD_some, List.setIfInBounds_toArray, List.set_cons_zero, List.set_cons_succ] at h; (try simp (decide := true) only [upd, hd, cond_true, cond_false, Bool.true_or, Bool.false_or, decide_true, decide_false] at h); exact h
            intro x W9 hW9
            obtain ⟨G9, R9, v9⟩ := x
            simp only [ovl, cond_true, Array.getD_eq_getD_getElem?, List.getElem?_toArray, List.getElem?_cons_succ, List.getElem?_cons_zero, Option.getD_some, List.setIfInBounds_toArray, List.set_cons_zero, List.set_cons_succ]
            simp only [cond_true] at hW9
            obtain ⟨X9, hs9, g9, hm9⟩ := hW9
            obtain ⟨sl9, gr9⟩ := hm9 trivial
            obtain ⟨a9, c9, rfl, -⟩ := sl9.slice
            have hgw : Gw2 W9 w [⟨b11, 61, #[.int .i64 R9.towers, .int .i64 R9.need, .int .i64 R9.newest, .string ⟨R9.claim.toArray⟩, .slice a9 R9.towers c9, .bool R9.sl, .int .i64 R9.fr, .int .i64 R9.to]⟩, ⟨b8, 61, #[.int .i64 R.towers, .int .i64 R.need, .int .i64 R.newest, .string ⟨R.claim.toArray⟩, .slice ah R.towers ch, .bool R.sl, .int .i64 R.fr, .int .i64 R.to]⟩] X9 q G9 p G := Gw2.mk' (g9.permC (perm_cnt fun x => by simp only [cnt_append, cnt_cons, cnt_nil] <;> omega)) HMp.out (HsX.out.trans hs9)
            have HGW := Lib.hid hgw
            have hx11 : HasBlk W9 b11 61 #[.int .i64 R9.towers, .int .i64 R9.need, .int .i64 R9.newest, .string ⟨R9.claim.toArray⟩, .slice a9 R9.towers c9, .bool R9.sl, .int .i64 R9.fr, .int .i64 R9.to] := hgw.has (by simp)
            have hx8 : HasBlk W9 b8 61 #[.int .i64 R.towers, .int .i64 R.need, .int .i64 R.newest, .string ⟨R.claim.toArray⟩, .slice ah R.towers ch, .bool R.sl, .int .i64 R.fr, .int .i64 R.to] := hgw.has (by simp)
            (have x0 := hx8.cell 0); (have x1 := hx8.cell 1); (have x2 := hx8.cell 2); (have x3 := hx8.cell 3); (have x4 := hx8.cell 4); (have x5 := hx8.cell 5); (have x6 := hx8.cell 6); (have x7 := hx8.cell 7)
            (have z0 := hx11.cell 0); (have z1 := hx11.cell 1); (have z2 := hx11.cell 2); (have z3 := hx11.cell 3); (have z4 := hx11.cell 4); (have z5 := hx11.cell 5); (have z6 := hx11.cell 6); (have z7 := hx11.cell 7)
            simp only [List.getElem?_toArray, List.getElem?_cons_succ, List.getElem?_cons_zero] at x0 x1 x2 x3 x4 x5 x6 x7
            simp only [List.getElem?_toArray, List.getElem?_cons_succ, List.getElem?_cons_zero] at z0 z1 z2 z3 z4 z5 z6 z7
            have l8 := hx8.lt
            have l11 := hx11.lt
            have HG9' := Lib.hid g9
            have HSl9 := Lib.hid sl9
            have HGR9 := Lib.hid gr9
            have HSR : Hid (Sl w X9 (.slice ah R.towers ch) R.towers (ics R.has)) := HS6.out.mono (HsX.out.trans hs9)
            have HsX9 := Lib.hid (HsX.out.trans hs9)
            obtain ⟨sb, HSB⟩ : ∃ sb, Hid (sameG G G9 = sb) := ⟨_, rfl⟩
            have HAL : Hid (alikeB R R9 = sb) := by show _ = _; rw [← HGR5.out.alike HGR9.out]; exact HSB.out
            clear g9 sl9 gr9 hm9 hs9 hgw hx11 hx8
            have T1 : Hid (∀ g d, Calls Try.prog 49 #[ptr p, .agg #[.int .i64 R.towers, .int .i64 R.need, .int .i64 R.newest, .string ⟨R.claim.toArray⟩, .slice ah R.towers ch, .bool R.sl, .int .i64 R.fr, .int .i64 R.to], .int .i64 5] (plus W9 g d) fun e w' => e = .returned (.bool true) ∧ Below (plus W9 g d).heap.size (plus W9 g d) w') := fun g d => by
              obtain ⟨v2, gp, -⟩ := (HGW.out.swap.plus g d).one
              exact seen_any 5 _ w _ X9 p G R _ gp HSR.out HGR5.out
            have T2 : Hid (∀ g d, Calls Try.prog 49 #[ptr q, .agg #[.int .i64 R9.towers, .int .i64 R9.need, .int .i64 R9.newest, .string ⟨R9.claim.toArray⟩, .slice a9 R9.towers c9, .bool R9.sl, .int .i64 R9.fr, .int .i64 R9.to], .int .i64 5] (plus W9 g d) fun e w' => e = .returned (.bool true) ∧ Below (plus W9 g d).heap.size (plus W9 g d) w') := fun g d =>
              seen_any 5 _ w _ X9 q G9 R9 _ (HG9'.out.plus g d) HSl9.out HGR9.out
            have T3 : Hid (∀ g d, Calls Try.prog 47 #[ptr p, ptr q] (plus W9 g d) fun e w' => e = .returned (.bool sb) ∧ Below (plus W9 g d).heap.size (plus W9 g d) w') := fun g d => (HGW.out.swap.plus g d).same sb HSB.out
            have T4 : Hid (∀ g d, Calls Try.prog 50 #[.agg #[.int .i64 R.towers, .int .i64 R.need, .int .i64 R.newest, .string ⟨R.claim.toArray⟩, .slice ah R.towers ch, .bool R.sl, .int .i64 R.fr, .int .i64 R.to], .agg #[.int .i64 R9.towers, .int .i64 R9.need, .int .i64 R9.newest, .string ⟨R9.claim.toArray⟩, .slice a9 R9.towers c9, .bool R9.sl, .int .i64 R9.fr, .int .i64 R9.to]] (plus W9 g d) fun e w' => e = .returned (.bool sb) ∧ Below (plus W9 g d).heap.size (plus W9 g d) w') := fun g d =>
              alike_to R R9 _ _ _ HGR5.out.len HGR9.out.len HGR5.out.tt HGR9.out.tt ((HG9'.out.plus g d).sl HSR.out) ((HG9'.out.plus g d).sl HSl9.out) sb HAL.out
            cases sb with
            | true =>
              go_wp2_with fail
              refine wp_region_rq (by kernel_rfl) (by kernel_rfl) (by kernel_rfl) ?_
              repeat (first
                | (refine B_skip ?_ ?_; (· rfl); (try simp only [Act.put, List.setIfInBounds_toArray, List.set_cons_zero, List.set_cons_succ]))
                | (refine B_move rfl ?_ ?_; (· rfl); (try simp only [Act.eval, Act.put, Array.getD_eq_getD_getElem?, List.getElem?_toArray, List.getElem?_cons_succ, List.getElem?_cons_zero, Option.getD_some, List.setIfInBounds_toArray, List.set_cons_zero, List.set_cons_succ]))
                | (refine B_plain ?_ ?_; (· rfl); intro K hK; go_big_quiet_op; with_reducible refine hK _ ?_; clear hK K)
                | (refine B_callX (v := ?_) (f := 49) rfl (by kernel_rfl) ?_ (fun xq => ?_) ?_; rotate_left; (· rfl); (· ((simp only [List.map_toArray, List.map_cons, List.map_nil, Act.eval, Array.getD_eq_getD_getElem?, List.getElem?_toArray, List.getElem?_cons_succ, List.getElem?_cons_zero, Option.getD_some]); with_reducible apply retB; with_reducible exact (T1.out _ _))); (try simp only [Act.put, List.setIfInBounds_toArray, List.set_cons_zero, List.set_cons_succ]))
                | (refine B_callX (v := ?_) (f := 49) rfl (by kernel_rfl) ?_ (fun xq => ?_) ?_; rotate_left; (· rfl); (· ((simp only [List.map_toArray, List.map_cons, List.map_nil, Act.eval, Array.getD_eq_getD_getElem?, List.getElem?_toArray, List.getElem?_cons_succ, List.getElem?_cons_zero, Option.getD_some]); with_reducible apply retB; with_reducible exact (T2.out _ _))); (try simp only [Act.put, List.setIfInBounds_toArray, List.set_cons_zero, List.set_cons_succ]))
                | (refine B_callX (v := ?_) (f := 47) rfl (by kernel_rfl) ?_ (fun xq => ?_) ?_; rotate_left; (· rfl); (· ((simp only [List.map_toArray, List.map_cons, List.map_nil, Act.eval, Array.getD_eq_getD_getElem?, List.getElem?_toArray, List.getElem?_cons_succ, List.getElem?_cons_zero, Option.getD_some]); with_reducible apply retB; with_reducible exact (T3.out _ _))); (try simp only [Act.put, List.setIfInBounds_toArray, List.set_cons_zero, List.set_cons_succ]))
                | (refine B_callX (v := ?_) (f := 50) rfl (by kernel_rfl) ?_ (fun xq => ?_) ?_; rotate_left; (· rfl); (· ((simp only [List.map_toArray, List.map_cons, List.map_nil, Act.eval, Array.getD_eq_getD_getElem?, List.getElem?_toArray, List.getElem?_cons_succ, List.getElem?_cons_zero, Option.getD_some]); with_reducible apply retB; with_reducible exact (T4.out _ _))); (try simp only [Act.put, List.setIfInBounds_toArray, List.set_cons_zero, List.set_cons_succ])))
              refine B_nil ?_ rfl ?_ ?_
              · kernel_rfl
              · rfl
              rintro _ ⟨⟨g20, d20⟩, rfl⟩
              simp only [fin, Act.put, List.setIfInBounds_toArray, List.set_cons_zero, List.set_cons_succ]
              go_wp2
              exact ⟨⟨k2 + 1, G9, R9, a9, c9, X9, by simp, by omega, by omega, HsX9.out, HG9'.out.plus _ _, HSl9.out, HGR9.out⟩, by simp [intOf]; omega⟩
            | false =>
              go_wp2_with fail
              refine wp_region_rq (by kernel_rfl) (by kernel_rfl) (by kernel_rfl) ?_
              repeat (first
                | (refine B_skip ?_ ?_; (· rfl); (try simp only [Act.put, List.setIfInBounds_toArray, List.set_cons_zero, List.set_cons_succ]))
                | (refine B_move rfl ?_ ?_; (· rfl); (try simp only [Act.eval, Act.put, Array.getD_eq_getD_getElem?, List.getElem?_toArray, List.getElem?_cons_succ, List.getElem?_cons_zero, Option.getD_some, List.setIfInBounds_toArray, List.set_cons_zero, List.set_cons_succ]))
                | (refine B_plain ?_ ?_; (· rfl); intro K hK; go_big_quiet_op; with_reducible refine hK _ ?_; clear hK K)
                | (refine B_callX (v := ?_) (f := 49) rfl (by kernel_rfl) ?_ (fun xq => ?_) ?_; rotate_left; (· rfl); (· ((simp only [List.map_toArray, List.map_cons, List.map_nil, Act.eval, Array.getD_eq_getD_getElem?, List.getElem?_toArray, List.getElem?_cons_succ, List.getElem?_cons_zero, Option.getD_some]); with_reducible apply retB; with_reducible exact (T1.out _ _))); (try simp only [Act.put, List.setIfInBounds_toArray, List.set_cons_zero, List.set_cons_succ]))
                | (refine B_callX (v := ?_) (f := 49) rfl (by kernel_rfl) ?_ (fun xq => ?_) ?_; rotate_left; (· rfl); (· ((simp only [List.map_toArray, List.map_cons, List.map_nil, Act.eval, Array.getD_eq_getD_getElem?, List.getElem?_toArray, List.getElem?_cons_succ, List.getElem?_cons_zero, Option.getD_some]); with_reducible apply retB; with_reducible exact (T2.out _ _))); (try simp only [Act.put, List.setIfInBounds_toArray, List.set_cons_zero, List.set_cons_succ]))
                | (refine B_callX (v := ?_) (f := 47) rfl (by kernel_rfl) ?_ (fun xq => ?_) ?_; rotate_left; (· rfl); (· ((simp only [List.map_toArray, List.map_cons, List.map_nil, Act.eval, Array.getD_eq_getD_getElem?, List.getElem?_toArray, List.getElem?_cons_succ, List.getElem?_cons_zero, Option.getD_some]); with_reducible apply retB; with_reducible exact (T3.out _ _))); (try simp only [Act.put, List.setIfInBounds_toArray, List.set_cons_zero, List.set_cons_succ]))
                | (refine B_callX (v := ?_) (f := 50) rfl (by kernel_rfl) ?_ (fun xq => ?_) ?_; rotate_left; (· rfl); (· ((simp only [List.map_toArray, List.map_cons, List.map_nil, Act.eval, Array.getD_eq_getD_getElem?, List.getElem?_toArray, List.getElem?_cons_succ, List.getElem?_cons_zero, Option.getD_some]); with_reducible apply retB; with_reducible exact (T4.out _ _))); (try simp only [Act.put, List.setIfInBounds_toArray, List.set_cons_zero, List.set_cons_succ])))
              refine B_nil ?_ rfl ?_ ?_
              · kernel_rfl
              · rfl
              rintro _ ⟨⟨g20, d20⟩, rfl⟩
              simp only [fin, Act.put, List.setIfInBounds_toArray, List.set_cons_zero, List.set_cons_succ]
              go_wp2
              exact ⟨⟨k2 + 1, G9, R9, a9, c9, X9, by simp, by omega, by omega, HsX9.out, HG9'.out.plus _ _, HSl9.out, HGR9.out⟩, by simp [intOf]; omega⟩
          · have hBL : H.box.length ≤ 1000 := HGR15.out.boxlen
            have hgoe2 : ¬ k2 < m2 ∨ (k2 < m2 ∧ ¬ k2 < 30) := by omega
            clear HG9 HS6 HMp HGR5 HSl5
            rcases hgoe2 with hd1 | ⟨hd1, hd2⟩
            · go_wp2_with fail
              obtain ⟨CC, HCC⟩ : ∃ CC : List Blk, CC = (⟨b11, 61, #[.int .i64 S.towers, .int .i64 S.need, .int .i64 S.newest, .string ⟨S.claim.toArray⟩, .slice a2 S.towers c2, .bool S.sl, .int .i64 S.fr, .int .i64 S.to]⟩ :: [⟨p, 132, gcs G vp⟩, ⟨b8, 61, #[.int .i64 R.towers, .int .i64 R.need, .int .i64 R.newest, .string ⟨R.claim.toArray⟩, .slice ah R.towers ch, .bool R.sl, .int .i64 R.fr, .int .i64 R.to]⟩]) := ⟨_, rfl⟩
              have HCM : Hid ((⟨b11, 61, #[.int .i64 S.towers, .int .i64 S.need, .int .i64 S.newest, .string ⟨S.claim.toArray⟩, .slice a2 S.towers c2, .bool S.sl, .int .i64 S.fr, .int .i64 S.to]⟩ : Blk) ∈ CC) := by rw [HCC]; exact List.mem_cons_self ..
              rw [← HCC] at HG15
              clear HCC
              by_cases hno : H.noted = true
              · have hb0 : 0 < H.box.length := by
                  have hn := HGR15.out.nt_iff.1 hno
                  rw [HGR15.out.box, if_pos hn, tbox_len]
                  omega
                refine (newest_yes q H _ w _ _ HG15.out hno (by omega)).mono ?_
                rintro e w16 ⟨u, rfl, hb16, au, cu, NB, rfl, hRw, hNB⟩
                have h16 := HG15.out.row hb16 hRw hNB
                have hcells := hRw.openP (L := []) (w := w16) (w0 := w16) (by rw [List.append_nil]; exact Mem.of_has hRw.apart fun x hx => (hNB x hx).2) hb0
                obtain ⟨r, cu', e1, hcu, hr16, hc16⟩ := hcells
                cases e1
                obtain ⟨cur, rfl⟩ := hRw.blk
                have hz := hc16 0 _ (bcs_get H.box 0 hb0)
                obtain ⟨z, HZ⟩ : ∃ z : Int, Hid (((H.box.getD 0 0).toNat : Int) = z) := ⟨_, rfl⟩
                rw [HZ.out] at hz
                have HG16 := Lib.hid (h16.key #[.int .u8 (by8 H.hint 0), .int .u8 (by8 H.hint 1), .int .u8 (by8 H.hint 2), .int .u8 (by8 H.hint 3), .int .u8 (by8 H.hint 4), .int .u8 (by8 H.hint 5), .int .u8 (by8 H.hint 6), .int .u8 (by8 H.hint 7), .int .i64 H.num, .slice (some ⟨r, 0, none⟩) H.box.length cu] 29 w16.heap.size rfl)
                have hcur0 : cur[0]? = some (.int .u8 z) := by
                  have := (h16.has (b := r) (List.mem_cons_self ..)).cell 0
                  rw [← this]; exact hz
                have HCUR := Lib.hid hcur0
                have hbd : (0 : Int) ≤ z ∧ z ≤ 255 := by
                  rw [← HZ.out]
                  have := (H.box.getD 0 0).toNat_lt
                  omega
                clear h16 hRw hNB hc16 hb16 hz hcur0 HG15
                have hlen : H.box.length ≤ 9223372036854775807 := by omega
                go_wp2_with fail
                refine wp_opq (fun W => Gu W w (⟨r, 5, cur⟩ :: CC) (⟨w16.heap.size, 29, #[.int .u8 (by8 H.hint 0), .int .u8 (by8 H.hint 1), .int .u8 (by8 H.hint 2), .int .u8 (by8 H.hint 3), .int .u8 (by8 H.hint 4), .int .u8 (by8 H.hint 5), .int .u8 (by8 H.hint 6), .int .u8 (by8 H.hint 7), .int .i64 H.num, .slice (some ⟨r, 0, none⟩) H.box.length cu]⟩ :: X7) q H) HG16.out ?_
                intro W17 h17
                have H17 := Lib.hid h17
                clear h17 HG16
                obtain ⟨b13, hb13⟩ : ∃ b13, b13 = w16.heap.size := ⟨_, rfl⟩
                simp only [← hb13] at H17 ⊢
                clear hb13
                refine wp_region_ov (fun L (x : Int) => [(L 0, 123, .pointer (some ⟨b13, 9, none⟩)), (L 1, 124, .slice (some ⟨r, 0, none⟩) H.box.length cu), (L 2, 125, .pointer (some ⟨b13, 9, none⟩)), (L 3, 126, .slice (some ⟨r, 0, none⟩) H.box.length cu), (L 4, 127, .pointer (some ⟨r, 0, none⟩)), (L 5, 128, .int .u8 z), (L 6, 129, .int .u8 x), (L 7, 130, .pointer (some ⟨r, 0, none⟩))])
                  (fun L x W => Gu W w (⟨r, 5, bif L 8 then cur.setIfInBounds 0 (.int .u8 x) else cur⟩ :: CC) (⟨b13, 29, #[.int .u8 (by8 H.hint 0), .int .u8 (by8 H.hint 1), .int .u8 (by8 H.hint 2), .int .u8 (by8 H.hint 3), .int .u8 (by8 H.hint 4), .int .u8 (by8 H.hint 5), .int .u8 (by8 H.hint 6), .int .u8 (by8 H.hint 7), .int .i64 H.num, .slice (some ⟨r, 0, none⟩) H.box.length cu]⟩ :: X7) q H) 0 (by kernel_rfl) (by kernel_rfl) (by rfl) H17.out.drew ?_ ⟨?_, ?_, ?_, ?_, ?_, ?_, ?_, ?_, ?_, trivial⟩
                rotate_left
                iterate 5 (· (intro L x W hW hC hL hd K hK; (try simp [depsB, Region.binds] at hd); (try simp only [Nat.reduceAdd] at hK hL); simp only [ovl, Array.getD_eq_getD_getElem?, List.getElem?_toArray, List.getElem?_cons_succ, List.getElem?_cons_zero, Option.getD_some, List.setIfInBounds_toArray, List.set_cons_zero, List.set_cons_succ]; (try simp only [hd, cond_true, cond_false]); (have hW0 := hW); (have hb9 : HasBlk W b13 29 #[.int .u8 (by8 H.hint 0), .int .u8 (by8 H.hint 1), .int .u8 (by8 H.hint 2), .int .u8 (by8 H.hint 3), .int .u8 (by8 H.hint 4), .int .u8 (by8 H.hint 5), .int .u8 (by8 H.hint 6), .int .u8 (by8 H.hint 7), .int .i64 H.num, .slice (some ⟨r, 0, none⟩) H.box.length cu] := hW.hasX (List.mem_cons_self ..)); (have k9 := hb9.cell 9); (have l9 := hb9.lt); clear hb9 hW; go_simp; (have h := hK x W hW0); simp only [ovl, Array.getD_eq_getD_getElem?, List.getElem?_toArray, List.getElem?_cons_succ, List.getElem?_cons_zero, Option.getD_some, List.setIfInBounds_toArray, List.set_cons_zero, List.set_cons_succ] at h; (try simp (decide := true) only [upd, hd, cond_true, cond_false, Bool.true_or, Bool.false_or, decide_true, decide_false] at h); exact h))
                · intro L x W hW hC hL hd K hK; (try simp [depsB, Region.binds] at hd); (try simp only [Nat.reduceAdd] at hK hL)
                  (have h8 : L 8 = false := by cases hl : L 8 with | false => rfl | true => have hx := hC 8 _ rfl hl; simp [depsB, Region.binds, hL, hd] at hx); (replace hd := And.intro hd h8)
                  simp only [ovl, Array.getD_eq_getD_getElem?, List.getElem?_toArray, List.getElem?_cons_succ, List.getElem?_cons_zero, Option.getD_some, List.setIfInBounds_toArray, List.set_cons_zero, List.set_cons_succ]; (try simp only [hd, cond_true, cond_false])
                  have hW0 := hW
                  simp only [hd, cond_false] at hW
                  have hbr := hW.has (List.mem_cons_self ..)
                  have kr := hbr.cell 0
                  rw [HCUR.out] at kr
                  have lr := hbr.lt
                  clear hbr hW
                  go_simp
                  (have h := hK x W hW0); simp only [ovl, Array.getD_eq_getD_getElem?, List.getElem?_toArray, List.getElem?_cons_succ, List.getElem?_cons_zero, Option.getD_some, List.setIfInBounds_toArray, List.set_cons_zero, List.set_cons_succ] at h; (try simp (decide := true) only [upd, hd, cond_true, cond_false, Bool.true_or, Bool.false_or, decide_true, decide_false] at h); exact h
                · intro L x W hW hC hL hd K hK; (try simp [depsB, Region.binds] at hd); (try simp only [Nat.reduceAdd] at hK hL)
                  (have h8 : L 8 = false := by cases hl : L 8 with | false => rfl | true => have hx := hC 8 _ rfl hl; simp [depsB, Region.binds, hL, hd] at hx); (replace hd := And.intro hd h8)
                  simp only [ovl, Array.getD_eq_getD_getElem?, List.getElem?_toArray, List.getElem?_cons_succ, List.getElem?_cons_zero, Option.getD_some, List.setIfInBounds_toArray, List.set_cons_zero, List.set_cons_succ]; (try simp only [hd, cond_true, cond_false])
                  have hW0 := hW
                  simp only [hd, cond_false] at hW0
                  clear hW
                  go_simp
                  (have h := hK (IntKind.u8.wrap (z + 1)) W (by simpa [upd, hd] using hW0)); simp only [ovl, Array.getD_eq_getD_getElem?, List.getElem?_toArray, List.getElem?_cons_succ, List.getElem?_cons_zero, Option.getD_some, List.setIfInBounds_toArray, List.set_cons_zero, List.set_cons_succ] at h; (try simp (decide := true) only [upd, hd, cond_true, cond_false, Bool.true_or, Bool.false_or, decide_true, decide_false] at h); exact h
                iterate 1 (· (intro L x W hW hC hL hd K hK; (try simp [depsB, Region.binds] at hd); (try simp only [Nat.reduceAdd] at hK hL); simp only [ovl, Array.getD_eq_getD_getElem?, List.getElem?_toArray, List.getElem?_cons_succ, List.getElem?_cons_zero, Option.getD_some, List.setIfInBounds_toArray, List.set_cons_zero, List.set_cons_succ]; (try simp only [hd, cond_true, cond_false]); (have hW0 := hW); (have hbr : HasBlk W r 5 (bif L 8 then cur.setIfInBounds 0 (.int .u8 x) else cur) := hW.has (List.mem_cons_self ..)); (have lr := hbr.lt); clear hbr hW; go_simp; (have h := hK x W hW0); simp only [ovl, Array.getD_eq_getD_getElem?, List.getElem?_toArray, List.getElem?_cons_succ, List.getElem?_cons_zero, Option.getD_some, List.setIfInBounds_toArray, List.set_cons_zero, List.set_cons_succ] at h; (try simp (decide := true) only [upd, hd, cond_true, cond_false, Bool.true_or, Bool.false_or, decide_true, decide_false] at h); exact h))
                · intro L x W hW hC hL hd K hK; (try simp [depsB, Region.binds] at hd); (try simp only [Nat.reduceAdd] at hK hL)
                  simp only [ovl, Array.getD_eq_getD_getElem?, List.getElem?_toArray, List.getElem?_cons_succ, List.getElem?_cons_zero, Option.getD_some, List.setIfInBounds_toArray, List.set_cons_zero, List.set_cons_succ]; (try simp only [hd, cond_true, cond_false])
                  have hW1 := hW
                  simp only [hL, hd, cond_false, cond_true] at hW1
                  have hbr : HasBlk W r 5 cur := hW1.has (List.mem_cons_self ..)
                  have kr := hbr.cell 0
                  rw [HCUR.out] at kr
                  have fr := hbr.frozen 0
                  have hset := hW1.set 0 (.int .u8 x)
                  have hset' := Lib.hid hset
                  clear hbr hW1 hset hW
                  go_simp
                  (have h := hK x _ (by simpa [upd, hd] using hset'.out)); simp only [ovl, Array.getD_eq_getD_getElem?, List.getElem?_toArray, List.getElem?_cons_succ, List.getElem?_cons_zero, Option.getD_some, List.setIfInBounds_toArray, List.set_cons_zero, List.set_cons_succ] at h; (try simp (decide := true) only [upd, hd, cond_true, cond_false, Bool.true_or, Bool.false_or, decide_true, decide_false] at h); exact h
                intro x W18 hW18
                simp only [ovl, cond_true, Array.getD_eq_getD_getElem?, List.getElem?_toArray, List.getElem?_cons_succ, List.getElem?_cons_zero, Option.getD_some, List.setIfInBounds_toArray, List.set_cons_zero, List.set_cons_succ]
                simp only [cond_true] at hW18
                have HG18 := Lib.hid hW18
                clear hW18 H17
                have hb11 : HasBlk W18 b11 61 #[.int .i64 S.towers, .int .i64 S.need, .int .i64 S.newest, .string ⟨S.claim.toArray⟩, .slice a2 S.towers c2, .bool S.sl, .int .i64 S.fr, .int .i64 S.to] := HG18.out.has (List.mem_cons_of_mem _ HCM.out)
                (have z0 := hb11.cell 0); (have z1 := hb11.cell 1); (have z2 := hb11.cell 2); (have z3 := hb11.cell 3); (have z4 := hb11.cell 4); (have z5 := hb11.cell 5); (have z6 := hb11.cell 6); (have z7 := hb11.cell 7)
                have l11 := hb11.lt
                simp only [List.getElem?_toArray, List.getElem?_cons_succ, List.getElem?_cons_zero] at z0 z1 z2 z3 z4 z5 z6 z7
                clear hb11
                go_wp2_with fail
                refine (seen_any 5 _ w _ _ q H S _ HG18.out (HSl15.out.mono fun x hx => List.mem_cons_of_mem _ hx) HGR15.out).mono ?_
                rintro e w17 ⟨rfl, hb17⟩
                have HB := Lib.hid (HG18.out.of_below hb17).below
                clear hb17 HG18
                go_wp2
                go_ret
                exact ⟨rfl, HB.out⟩
              · refine (newest_no q H _ w _ _ HG15.out (by simpa using hno)).mono ?_
                rintro e w16 ⟨rfl, hb16⟩
                have HG16 := Lib.hid ((HG15.out.of_below hb16).alloc (.cells #[.int .u8 0, .int .u8 0, .int .u8 0, .int .u8 0, .int .u8 0, .int .u8 0, .int .u8 0, .int .u8 0, .int .i64 0, .slice none 0 0] 29))
                clear hb16 HG15
                have hb11 : HasBlk _ b11 61 #[.int .i64 S.towers, .int .i64 S.need, .int .i64 S.newest, .string ⟨S.claim.toArray⟩, .slice a2 S.towers c2, .bool S.sl, .int .i64 S.fr, .int .i64 S.to] := HG16.out.has HCM.out
                (have z0 := hb11.cell 0); (have z1 := hb11.cell 1); (have z2 := hb11.cell 2); (have z3 := hb11.cell 3); (have z4 := hb11.cell 4); (have z5 := hb11.cell 5); (have z6 := hb11.cell 6); (have z7 := hb11.cell 7)
                have l11 := hb11.lt
                simp only [List.getElem?_toArray, List.getElem?_cons_succ, List.getElem?_cons_zero] at z0 z1 z2 z3 z4 z5 z6 z7
                clear hb11
                go_wp2_with fail
                refine (seen_any 5 _ w _ _ q H S _ HG16.out HSl15.out HGR15.out).mono ?_
                rintro e w17 ⟨rfl, hb17⟩
                have HB := Lib.hid (HG16.out.of_below hb17).below
                clear hb17 HG16
                go_wp2
                go_ret
                exact ⟨rfl, HB.out⟩
            · go_wp2_with fail
              obtain ⟨CC, HCC⟩ : ∃ CC : List Blk, CC = (⟨b11, 61, #[.int .i64 S.towers, .int .i64 S.need, .int .i64 S.newest, .string ⟨S.claim.toArray⟩, .slice a2 S.towers c2, .bool S.sl, .int .i64 S.fr, .int .i64 S.to]⟩ :: [⟨p, 132, gcs G vp⟩, ⟨b8, 61, #[.int .i64 R.towers, .int .i64 R.need, .int .i64 R.newest, .string ⟨R.claim.toArray⟩, .slice ah R.towers ch, .bool R.sl, .int .i64 R.fr, .int .i64 R.to]⟩]) := ⟨_, rfl⟩
              have HCM : Hid ((⟨b11, 61, #[.int .i64 S.towers, .int .i64 S.need, .int .i64 S.newest, .string ⟨S.claim.toArray⟩, .slice a2 S.towers c2, .bool S.sl, .int .i64 S.fr, .int .i64 S.to]⟩ : Blk) ∈ CC) := by rw [HCC]; exact List.mem_cons_self ..
              rw [← HCC] at HG15
              clear HCC
              by_cases hno : H.noted = true
              · have hb0 : 0 < H.box.length := by
                  have hn := HGR15.out.nt_iff.1 hno
                  rw [HGR15.out.box, if_pos hn, tbox_len]
                  omega
                refine (newest_yes q H _ w _ _ HG15.out hno (by omega)).mono ?_
                rintro e w16 ⟨u, rfl, hb16, au, cu, NB, rfl, hRw, hNB⟩
                have h16 := HG15.out.row hb16 hRw hNB
                have hcells := hRw.openP (L := []) (w := w16) (w0 := w16) (by rw [List.append_nil]; exact Mem.of_has hRw.apart fun x hx => (hNB x hx).2) hb0
                obtain ⟨r, cu', e1, hcu, hr16, hc16⟩ := hcells
                cases e1
                obtain ⟨cur, rfl⟩ := hRw.blk
                have hz := hc16 0 _ (bcs_get H.box 0 hb0)
                obtain ⟨z, HZ⟩ : ∃ z : Int, Hid (((H.box.getD 0 0).toNat : Int) = z) := ⟨_, rfl⟩
                rw [HZ.out] at hz
                have HG16 := Lib.hid (h16.key #[.int .u8 (by8 H.hint 0), .int .u8 (by8 H.hint 1), .int .u8 (by8 H.hint 2), .int .u8 (by8 H.hint 3), .int .u8 (by8 H.hint 4), .int .u8 (by8 H.hint 5), .int .u8 (by8 H.hint 6), .int .u8 (by8 H.hint 7), .int .i64 H.num, .slice (some ⟨r, 0, none⟩) H.box.length cu] 29 w16.heap.size rfl)
                have hcur0 : cur[0]? = some (.int .u8 z) := by
                  have := (h16.has (b := r) (List.mem_cons_self ..)).cell 0
                  rw [← this]; exact hz
                have HCUR := Lib.hid hcur0
                have hbd : (0 : Int) ≤ z ∧ z ≤ 255 := by
                  rw [← HZ.out]
                  have := (H.box.getD 0 0).toNat_lt
                  omega
                clear h16 hRw hNB hc16 hb16 hz hcur0 HG15
                have hlen : H.box.length ≤ 9223372036854775807 := by omega
                go_wp2_with fail
                refine wp_opq (fun W => Gu W w (⟨r, 5, cur⟩ :: CC) (⟨w16.heap.size, 29, #[.int .u8 (by8 H.hint 0), .int .u8 (by8 H.hint 1), .int .u8 (by8 H.hint 2), .int .u8 (by8 H.hint 3), .int .u8 (by8 H.hint 4), .int .u8 (by8 H.hint 5), .int .u8 (by8 H.hint 6), .int .u8 (by8 H.hint 7), .int .i64 H.num, .slice (some ⟨r, 0, none⟩) H.box.length cu]⟩ :: X7) q H) HG16.out ?_
                intro W17 h17
                have H17 := Lib.hid h17
                clear h17 HG16
                obtain ⟨b13, hb13⟩ : ∃ b13, b13 = w16.heap.size := ⟨_, rfl⟩
                simp only [← hb13] at H17 ⊢
                clear hb13
                refine wp_region_ov (fun L (x : Int) => [(L 0, 123, .pointer (some ⟨b13, 9, none⟩)), (L 1, 124, .slice (some ⟨r, 0, none⟩) H.box.length cu), (L 2, 125, .pointer (some ⟨b13, 9, none⟩)), (L 3, 126, .slice (some ⟨r, 0, none⟩) H.box.length cu), (L 4, 127, .pointer (some ⟨r, 0, none⟩)), (L 5, 128, .int .u8 z), (L 6, 129, .int .u8 x), (L 7, 130, .pointer (some ⟨r, 0, none⟩))])
                  (fun L x W => Gu W w (⟨r, 5, bif L 8 then cur.setIfInBounds 0 (.int .u8 x) else cur⟩ :: CC) (⟨b13, 29, #[.int .u8 (by8 H.hint 0), .int .u8 (by8 H.hint 1), .int .u8 (by8 H.hint 2), .int .u8 (by8 H.hint 3), .int .u8 (by8 H.hint 4), .int .u8 (by8 H.hint 5), .int .u8 (by8 H.hint 6), .int .u8 (by8 H.hint 7), .int .i64 H.num, .slice (some ⟨r, 0, none⟩) H.box.length cu]⟩ :: X7) q H) 0 (by kernel_rfl) (by kernel_rfl) (by rfl) H17.out.drew ?_ ⟨?_, ?_, ?_, ?_, ?_, ?_, ?_, ?_, ?_, trivial⟩
                rotate_left
                iterate 5 (· (intro L x W hW hC hL hd K hK; (try simp [depsB, Region.binds] at hd); (try simp only [Nat.reduceAdd] at hK hL); simp only [ovl, Array.getD_eq_getD_getElem?, List.getElem?_toArray, List.getElem?_cons_succ, List.getElem?_cons_zero, Option.getD_some, List.setIfInBounds_toArray, List.set_cons_zero, List.set_cons_succ]; (try simp only [hd, cond_true, cond_false]); (have hW0 := hW); (have hb9 : HasBlk W b13 29 #[.int .u8 (by8 H.hint 0), .int .u8 (by8 H.hint 1), .int .u8 (by8 H.hint 2), .int .u8 (by8 H.hint 3), .int .u8 (by8 H.hint 4), .int .u8 (by8 H.hint 5), .int .u8 (by8 H.hint 6), .int .u8 (by8 H.hint 7), .int .i64 H.num, .slice (some ⟨r, 0, none⟩) H.box.length cu] := hW.hasX (List.mem_cons_self ..)); (have k9 := hb9.cell 9); (have l9 := hb9.lt); clear hb9 hW; go_simp; (have h := hK x W hW0); simp only [ovl, Array.getD_eq_getD_getElem?, List.getElem?_toArray, List.getElem?_cons_succ, List.getElem?_cons_zero, Option.getD_some, List.setIfInBounds_toArray, List.set_cons_zero, List.set_cons_succ] at h; (try simp (decide := true) only [upd, hd, cond_true, cond_false, Bool.true_or, Bool.false_or, decide_true, decide_false] at h); exact h))
                · intro L x W hW hC hL hd K hK; (try simp [depsB, Region.binds] at hd); (try simp only [Nat.reduceAdd] at hK hL)
                  (have h8 : L 8 = false := by cases hl : L 8 with | false => rfl | true => have hx := hC 8 _ rfl hl; simp [depsB, Region.binds, hL, hd] at hx); (replace hd := And.intro hd h8)
                  simp only [ovl, Array.getD_eq_getD_getElem?, List.getElem?_toArray, List.getElem?_cons_succ, List.getElem?_cons_zero, Option.getD_some, List.setIfInBounds_toArray, List.set_cons_zero, List.set_cons_succ]; (try simp only [hd, cond_true, cond_false])
                  have hW0 := hW
                  simp only [hd, cond_false] at hW
                  have hbr := hW.has (List.mem_cons_self ..)
                  have kr := hbr.cell 0
                  rw [HCUR.out] at kr
                  have lr := hbr.lt
                  clear hbr hW
                  go_simp
                  (have h := hK x W hW0); simp only [ovl, Array.getD_eq_getD_getElem?, List.getElem?_toArray, List.getElem?_cons_succ, List.getElem?_cons_zero, Option.getD_some, List.setIfInBounds_toArray, List.set_cons_zero, List.set_cons_succ] at h; (try simp (decide := true) only [upd, hd, cond_true, cond_false, Bool.true_or, Bool.false_or, decide_true, decide_false] at h); exact h
                · intro L x W hW hC hL hd K hK; (try simp [depsB, Region.binds] at hd); (try simp only [Nat.reduceAdd] at hK hL)
                  (have h8 : L 8 = false := by cases hl : L 8 with | false => rfl | true => have hx := hC 8 _ rfl hl; simp [depsB, Region.binds, hL, hd] at hx); (replace hd := And.intro hd h8)
                  simp only [ovl, Array.getD_eq_getD_getElem?, List.getElem?_toArray, List.getElem?_cons_succ, List.getElem?_cons_zero, Option.getD_some, List.setIfInBounds_toArray, List.set_cons_zero, List.set_cons_succ]; (try simp only [hd, cond_true, cond_false])
                  have hW0 := hW
                  simp only [hd, cond_false] at hW0
                  clear hW
                  go_simp
                  (have h := hK (IntKind.u8.wrap (z + 1)) W (by simpa [upd, hd] using hW0)); simp only [ovl, Array.getD_eq_getD_getElem?, List.getElem?_toArray, List.getElem?_cons_succ, List.getElem?_cons_zero, Option.getD_some, List.setIfInBounds_toArray, List.set_cons_zero, List.set_cons_succ] at h; (try simp (decide := true) only [upd, hd, cond_true, cond_false, Bool.true_or, Bool.false_or, decide_true, decide_false] at h); exact h
                iterate 1 (· (intro L x W hW hC hL hd K hK; (try simp [depsB, Region.binds] at hd); (try simp only [Nat.reduceAdd] at hK hL); simp only [ovl, Array.getD_eq_getD_getElem?, List.getElem?_toArray, List.getElem?_cons_succ, List.getElem?_cons_zero, Option.getD_some, List.setIfInBounds_toArray, List.set_cons_zero, List.set_cons_succ]; (try simp only [hd, cond_true, cond_false]); (have hW0 := hW); (have hbr : HasBlk W r 5 (bif L 8 then cur.setIfInBounds 0 (.int .u8 x) else cur) := hW.has (List.mem_cons_self ..)); (have lr := hbr.lt); clear hbr hW; go_simp; (have h := hK x W hW0); simp only [ovl, Array.getD_eq_getD_getElem?, List.getElem?_toArray, List.getElem?_cons_succ, List.getElem?_cons_zero, Option.getD_some, List.setIfInBounds_toArray, List.set_cons_zero, List.set_cons_succ] at h; (try simp (decide := true) only [upd, hd, cond_true, cond_false, Bool.true_or, Bool.false_or, decide_true, decide_false] at h); exact h))
                · intro L x W hW hC hL hd K hK; (try simp [depsB, Region.binds] at hd); (try simp only [Nat.reduceAdd] at hK hL)
                  simp only [ovl, Array.getD_eq_getD_getElem?, List.getElem?_toArray, List.getElem?_cons_succ, List.getElem?_cons_zero, Option.getD_some, List.setIfInBounds_toArray, List.set_cons_zero, List.set_cons_succ]; (try simp only [hd, cond_true, cond_false])
                  have hW1 := hW
                  simp only [hL, hd, cond_false, cond_true] at hW1
                  have hbr : HasBlk W r 5 cur := hW1.has (List.mem_cons_self ..)
                  have kr := hbr.cell 0
                  rw [HCUR.out] at kr
                  have fr := hbr.frozen 0
                  have hset := hW1.set 0 (.int .u8 x)
                  have hset' := Lib.hid hset
                  clear hbr hW1 hset hW
                  go_simp
                  (have h := hK x _ (by simpa [upd, hd] using hset'.out)); simp only [ovl, Array.getD_eq_getD_getElem?, List.getElem?_toArray, List.getElem?_cons_succ, List.getElem?_cons_zero, Option.getD_some, List.setIfInBounds_toArray, List.set_cons_zero, List.set_cons_succ] at h; (try simp (decide := true) only [upd, hd, cond_true, cond_false, Bool.true_or, Bool.false_or, decide_true, decide_false] at h); exact h
                intro x W18 hW18
                simp only [ovl, cond_true, Array.getD_eq_getD_getElem?, List.getElem?_toArray, List.getElem?_cons_succ, List.getElem?_cons_zero, Option.getD_some, List.setIfInBounds_toArray, List.set_cons_zero, List.set_cons_succ]
                simp only [cond_true] at hW18
                have HG18 := Lib.hid hW18
                clear hW18 H17
                have hb11 : HasBlk W18 b11 61 #[.int .i64 S.towers, .int .i64 S.need, .int .i64 S.newest, .string ⟨S.claim.toArray⟩, .slice a2 S.towers c2, .bool S.sl, .int .i64 S.fr, .int .i64 S.to] := HG18.out.has (List.mem_cons_of_mem _ HCM.out)
                (have z0 := hb11.cell 0); (have z1 := hb11.cell 1); (have z2 := hb11.cell 2); (have z3 := hb11.cell 3); (have z4 := hb11.cell 4); (have z5 := hb11.cell 5); (have z6 := hb11.cell 6); (have z7 := hb11.cell 7)
                have l11 := hb11.lt
                simp only [List.getElem?_toArray, List.getElem?_cons_succ, List.getElem?_cons_zero] at z0 z1 z2 z3 z4 z5 z6 z7
                clear hb11
                go_wp2_with fail
                refine (seen_any 5 _ w _ _ q H S _ HG18.out (HSl15.out.mono fun x hx => List.mem_cons_of_mem _ hx) HGR15.out).mono ?_
                rintro e w17 ⟨rfl, hb17⟩
                have HB := Lib.hid (HG18.out.of_below hb17).below
                clear hb17 HG18
                go_wp2
                go_ret
                exact ⟨rfl, HB.out⟩
              · refine (newest_no q H _ w _ _ HG15.out (by simpa using hno)).mono ?_
                rintro e w16 ⟨rfl, hb16⟩
                have HG16 := Lib.hid ((HG15.out.of_below hb16).alloc (.cells #[.int .u8 0, .int .u8 0, .int .u8 0, .int .u8 0, .int .u8 0, .int .u8 0, .int .u8 0, .int .u8 0, .int .i64 0, .slice none 0 0] 29))
                clear hb16 HG15
                have hb11 : HasBlk _ b11 61 #[.int .i64 S.towers, .int .i64 S.need, .int .i64 S.newest, .string ⟨S.claim.toArray⟩, .slice a2 S.towers c2, .bool S.sl, .int .i64 S.fr, .int .i64 S.to] := HG16.out.has HCM.out
                (have z0 := hb11.cell 0); (have z1 := hb11.cell 1); (have z2 := hb11.cell 2); (have z3 := hb11.cell 3); (have z4 := hb11.cell 4); (have z5 := hb11.cell 5); (have z6 := hb11.cell 6); (have z7 := hb11.cell 7)
                have l11 := hb11.lt
                simp only [List.getElem?_toArray, List.getElem?_cons_succ, List.getElem?_cons_zero] at z0 z1 z2 z3 z4 z5 z6 z7
                clear hb11
                go_wp2_with fail
                refine (seen_any 5 _ w _ _ q H S _ HG16.out HSl15.out HGR15.out).mono ?_
                rintro e w17 ⟨rfl, hb17⟩
                have HB := Lib.hid (HG16.out.of_below hb17).below
                clear hb17 HG16
                go_wp2
                go_ret
                exact ⟨rfl, HB.out⟩

end Go.Proofs.Ytghaiplhakeahaa
