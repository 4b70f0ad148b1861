/- The law OnceShows: its walk. -/
import Derived.Test.YthdcfdfpfagamaaK5
import Derived.Test.YthdcfdfpfagamaaRi
import Derived.Test.YthdcfdfpfagamaaTl
namespace Go.Proofs.Ythdcfdfpfagamaa
set_option linter.unusedSimpArgs false
set_option linter.unusedVariables false
open Go.RowKit

theorem Mem.found2 {w w0 W : World} {L X : List Blk} (M : Mem W w0 L) (hx : Below W.heap.size W w) (hb : ∀ x ∈ X, W.heap.size ≤ x.no ∧ HasBlk w x.no x.ty x.cs) (hp : X.Pairwise (fun x y => x.no ≠ y.no)) : Mem w w0 (X ++ L) := by
  have M' := M.of_below hx
  refine ⟨M'.os, M'.tape, M'.output, M'.size, fun k hk hy => M'.old k hk fun y hm => hy y (List.mem_append_right _ hm), ?_, ?_⟩
  · refine List.pairwise_append.2 ⟨hp, M.apart, fun x hx y hy => ?_⟩
    have := M.lt hy
    have := (hb x hx).1
    omega
  · intro y hy
    rcases List.mem_append.1 hy with hy | hy
    · exact (hb y hy).2
    · exact M'.has y hy
theorem wpk_mem {P : Program} {c : Code} {Q : Exit → Act → World → Prop} {a : Act} {W : World} (S : World → Prop) (h : S W) (k : ∀ W', S W' → c.wp P Q a W') : c.wp P Q a W := k W h
theorem wpk_opqK {Q : Exit → Act → World → Prop} {e : Exit} {a : Act} {W : World} (S : World → Prop) (h : S W) (k : ∀ W', S W' → Q e a W') : Q e a W := k W h
theorem sign_list (s m : BitVec 64) (l : List UInt8) (h : signB s m = l) (w : World) :
    Calls Try.prog 23 #[.agg #[.int .u8 (by8 s 0), .int .u8 (by8 s 1), .int .u8 (by8 s 2), .int .u8 (by8 s 3), .int .u8 (by8 s 4), .int .u8 (by8 s 5), .int .u8 (by8 s 6), .int .u8 (by8 s 7)], .agg #[.int .u8 (by8 m 0), .int .u8 (by8 m 1), .int .u8 (by8 m 2), .int .u8 (by8 m 3), .int .u8 (by8 m 4), .int .u8 (by8 m 5), .int .u8 (by8 m 6), .int .u8 (by8 m 7)]] w fun e w' => ∃ v, e = .returned v ∧ Below w.heap.size w w' ∧ BSl w' v l := by
  subst h; exact sign_to s m w

set_option maxRecDepth 100000 in
set_option maxHeartbeats 4000000 in
theorem onceShows_any (s a b : BitVec 64) (w : World) :
    Calls Try.prog 9 #[.agg #[.int .u8 (by8 s 0), .int .u8 (by8 s 1), .int .u8 (by8 s 2), .int .u8 (by8 s 3), .int .u8 (by8 s 4), .int .u8 (by8 s 5), .int .u8 (by8 s 6), .int .u8 (by8 s 7)], .agg #[.int .u8 (by8 a 0), .int .u8 (by8 a 1), .int .u8 (by8 a 2), .int .u8 (by8 a 3), .int .u8 (by8 a 4), .int .u8 (by8 a 5), .int .u8 (by8 a 6), .int .u8 (by8 a 7)], .agg #[.int .u8 (by8 b 0), .int .u8 (by8 b 1), .int .u8 (by8 b 2), .int .u8 (by8 b 3), .int .u8 (by8 b 4), .int .u8 (by8 b 5), .int .u8 (by8 b 6), .int .u8 (by8 b 7)]] w fun e w' => e = .returned (.bool true) ∧ Below w.heap.size w w' := by
  obtain ⟨l1, HL1⟩ : ∃ l, Hid (signB s a = l) := ⟨_, rfl⟩
  obtain ⟨l2, HL2⟩ : ∃ l, Hid (signB s b = l) := ⟨_, rfl⟩
  have hl1 : l1.length = 144 := by rw [← HL1.out]; exact signB_len _ _
  have hl2 : l2.length = 144 := by rw [← HL2.out]; exact signB_len _ _
  have S1 := Lib.hid (fun W => sign_list s a l1 HL1.out W)
  have S2 := Lib.hid (fun W => sign_list s b l2 HL2.out W)
  go_enter Try.func9, Try.ntmps9
  go_wp2_with fail
  refine wpk_mem (fun W => Mem W w [(⟨w.heap.size + 1 + 1, 22, #[.int .u8 (by8 b 0), .int .u8 (by8 b 1), .int .u8 (by8 b 2), .int .u8 (by8 b 3), .int .u8 (by8 b 4), .int .u8 (by8 b 5), .int .u8 (by8 b 6), .int .u8 (by8 b 7)]⟩ : Blk), (⟨w.heap.size + 1, 22, #[.int .u8 (by8 a 0), .int .u8 (by8 a 1), .int .u8 (by8 a 2), .int .u8 (by8 a 3), .int .u8 (by8 a 4), .int .u8 (by8 a 5), .int .u8 (by8 a 6), .int .u8 (by8 a 7)]⟩ : Blk), (⟨w.heap.size, 22, #[.int .u8 (by8 s 0), .int .u8 (by8 s 1), .int .u8 (by8 s 2), .int .u8 (by8 s 3), .int .u8 (by8 s 4), .int .u8 (by8 s 5), .int .u8 (by8 s 6), .int .u8 (by8 s 7)]⟩ : Blk)]) ((((Mem.start w).key #[.int .u8 (by8 s 0), .int .u8 (by8 s 1), .int .u8 (by8 s 2), .int .u8 (by8 s 3), .int .u8 (by8 s 4), .int .u8 (by8 s 5), .int .u8 (by8 s 6), .int .u8 (by8 s 7)] 22 w.heap.size rfl).key #[.int .u8 (by8 a 0), .int .u8 (by8 a 1), .int .u8 (by8 a 2), .int .u8 (by8 a 3), .int .u8 (by8 a 4), .int .u8 (by8 a 5), .int .u8 (by8 a 6), .int .u8 (by8 a 7)] 22 (w.heap.size + 1) (by simp)).key #[.int .u8 (by8 b 0), .int .u8 (by8 b 1), .int .u8 (by8 b 2), .int .u8 (by8 b 3), .int .u8 (by8 b 4), .int .u8 (by8 b 5), .int .u8 (by8 b 6), .int .u8 (by8 b 7)] 22 (w.heap.size + 1 + 1) (by simp)) ?_
  intro W0 M0
  have HN0 : Hid (New w [(⟨w.heap.size + 1 + 1, 22, #[.int .u8 (by8 b 0), .int .u8 (by8 b 1), .int .u8 (by8 b 2), .int .u8 (by8 b 3), .int .u8 (by8 b 4), .int .u8 (by8 b 5), .int .u8 (by8 b 6), .int .u8 (by8 b 7)]⟩ : Blk), (⟨w.heap.size + 1, 22, #[.int .u8 (by8 a 0), .int .u8 (by8 a 1), .int .u8 (by8 a 2), .int .u8 (by8 a 3), .int .u8 (by8 a 4), .int .u8 (by8 a 5), .int .u8 (by8 a 6), .int .u8 (by8 a 7)]⟩ : Blk), (⟨w.heap.size, 22, #[.int .u8 (by8 s 0), .int .u8 (by8 s 1), .int .u8 (by8 s 2), .int .u8 (by8 s 3), .int .u8 (by8 s 4), .int .u8 (by8 s 5), .int .u8 (by8 s 6), .int .u8 (by8 s 7)]⟩ : Blk)]) := New.cons (by show w.heap.size ≤ w.heap.size + 1 + 1; omega) (New.cons (Nat.le_succ _) (New.cons (Nat.le_refl _) (New.nil _)))
  have cS := M0.cell (b := w.heap.size) (t := 22) (cs := #[.int .u8 (by8 s 0), .int .u8 (by8 s 1), .int .u8 (by8 s 2), .int .u8 (by8 s 3), .int .u8 (by8 s 4), .int .u8 (by8 s 5), .int .u8 (by8 s 6), .int .u8 (by8 s 7)]) (by simp)
  have cA := M0.cell (b := w.heap.size + 1) (t := 22) (cs := #[.int .u8 (by8 a 0), .int .u8 (by8 a 1), .int .u8 (by8 a 2), .int .u8 (by8 a 3), .int .u8 (by8 a 4), .int .u8 (by8 a 5), .int .u8 (by8 a 6), .int .u8 (by8 a 7)]) (by simp)
  have cB := M0.cell (b := w.heap.size + 1 + 1) (t := 22) (cs := #[.int .u8 (by8 b 0), .int .u8 (by8 b 1), .int .u8 (by8 b 2), .int .u8 (by8 b 3), .int .u8 (by8 b 4), .int .u8 (by8 b 5), .int .u8 (by8 b 6), .int .u8 (by8 b 7)]) (by simp)
  have lS : w.heap.size < W0.heap.size := M0.lt (x := (⟨w.heap.size, 22, #[.int .u8 (by8 s 0), .int .u8 (by8 s 1), .int .u8 (by8 s 2), .int .u8 (by8 s 3), .int .u8 (by8 s 4), .int .u8 (by8 s 5), .int .u8 (by8 s 6), .int .u8 (by8 s 7)]⟩ : Blk)) (by simp)
  have lA : w.heap.size + 1 < W0.heap.size := M0.lt (x := (⟨w.heap.size + 1, 22, #[.int .u8 (by8 a 0), .int .u8 (by8 a 1), .int .u8 (by8 a 2), .int .u8 (by8 a 3), .int .u8 (by8 a 4), .int .u8 (by8 a 5), .int .u8 (by8 a 6), .int .u8 (by8 a 7)]⟩ : Blk)) (by simp)
  have lB : w.heap.size + 1 + 1 < W0.heap.size := M0.lt (x := (⟨w.heap.size + 1 + 1, 22, #[.int .u8 (by8 b 0), .int .u8 (by8 b 1), .int .u8 (by8 b 2), .int .u8 (by8 b 3), .int .u8 (by8 b 4), .int .u8 (by8 b 5), .int .u8 (by8 b 6), .int .u8 (by8 b 7)]⟩ : Blk)) (by simp)
  have HM0 := Lib.hid M0
  clear M0
  refine wp_region_rq (by kernel_rfl) (by kernel_rfl) (by kernel_rfl) ?_
  repeat (first
    | (refine B_skip ?_ ?_; (· rfl); (try simp only [Act.put, List.setIfInBounds_toArray, List.set_cons_zero, List.set_cons_succ]))
    | (refine B_move rfl ?_ ?_; (· rfl); (try simp only [Act.eval, Act.put, Array.getD_eq_getD_getElem?, List.getElem?_toArray, List.getElem?_cons_succ, List.getElem?_cons_zero, Option.getD_some, List.setIfInBounds_toArray, List.set_cons_zero, List.set_cons_succ]))
    | (refine B_plain ?_ ?_; (· rfl); intro K hK; go_big_quiet_op; with_reducible refine hK _ ?_; clear hK K)
    | (refine B_callR ((fun v w => BSl w v l1)) ((stays_bsl _)) (f := 23) rfl rfl (by kernel_rfl) ?_ (fun xq => ?_) ?_; (· rfl); (· ((simp only [List.map_toArray, List.map_cons, List.map_nil, Act.eval, Array.getD_eq_getD_getElem?, List.getElem?_toArray, List.getElem?_cons_succ, List.getElem?_cons_zero, Option.getD_some]); (with_reducible apply retR); with_reducible exact S1.out _)))
    | (refine B_callR ((fun v w => BSl w v l2)) ((stays_bsl _)) (f := 23) rfl rfl (by kernel_rfl) ?_ (fun xq => ?_) ?_; (· rfl); (· ((simp only [List.map_toArray, List.map_cons, List.map_nil, Act.eval, Array.getD_eq_getD_getElem?, List.getElem?_toArray, List.getElem?_cons_succ, List.getElem?_cons_zero, Option.getD_some]); (with_reducible apply retR); with_reducible exact S2.out _)))
    | (refine B_moveR _ ?_ rfl (Or.inr rfl) rfl ?_ ?_; (· exact stays_bsl _); (· rfl)))
  refine B_nil ?_ rfl ?_ ?_
  · kernel_rfl
  · rfl
  rintro _ ⟨⟨g1, d1⟩, rfl⟩
  simp only [fin, Act.put, List.setIfInBounds_toArray, List.set_cons_zero, List.set_cons_succ]
  intro u8 H8 u7 H7 u21 _ u18 _
  refine wpk_opqK (fun W => Mem W w [(⟨w.heap.size + 1 + 1, 22, #[.int .u8 (by8 b 0), .int .u8 (by8 b 1), .int .u8 (by8 b 2), .int .u8 (by8 b 3), .int .u8 (by8 b 4), .int .u8 (by8 b 5), .int .u8 (by8 b 6), .int .u8 (by8 b 7)]⟩ : Blk), (⟨w.heap.size + 1, 22, #[.int .u8 (by8 a 0), .int .u8 (by8 a 1), .int .u8 (by8 a 2), .int .u8 (by8 a 3), .int .u8 (by8 a 4), .int .u8 (by8 a 5), .int .u8 (by8 a 6), .int .u8 (by8 a 7)]⟩ : Blk), (⟨w.heap.size, 22, #[.int .u8 (by8 s 0), .int .u8 (by8 s 1), .int .u8 (by8 s 2), .int .u8 (by8 s 3), .int .u8 (by8 s 4), .int .u8 (by8 s 5), .int .u8 (by8 s 6), .int .u8 (by8 s 7)]⟩ : Blk)] ∧ BSl W u7 l1 ∧ BSl W u8 l2) ⟨HM0.out.plus _ _, H7, H8⟩ ?_
  rintro W ⟨M, h7, h8⟩
  clear H7 H8 cS cA cB lS lA lB HM0
  have cA := M.cell (b := w.heap.size + 1) (t := 22) (cs := #[.int .u8 (by8 a 0), .int .u8 (by8 a 1), .int .u8 (by8 a 2), .int .u8 (by8 a 3), .int .u8 (by8 a 4), .int .u8 (by8 a 5), .int .u8 (by8 a 6), .int .u8 (by8 a 7)]) (by simp)
  have cB := M.cell (b := w.heap.size + 1 + 1) (t := 22) (cs := #[.int .u8 (by8 b 0), .int .u8 (by8 b 1), .int .u8 (by8 b 2), .int .u8 (by8 b 3), .int .u8 (by8 b 4), .int .u8 (by8 b 5), .int .u8 (by8 b 6), .int .u8 (by8 b 7)]) (by simp)
  have lA : w.heap.size + 1 < W.heap.size := M.lt (x := (⟨w.heap.size + 1, 22, #[.int .u8 (by8 a 0), .int .u8 (by8 a 1), .int .u8 (by8 a 2), .int .u8 (by8 a 3), .int .u8 (by8 a 4), .int .u8 (by8 a 5), .int .u8 (by8 a 6), .int .u8 (by8 a 7)]⟩ : Blk)) (by simp)
  have lB : w.heap.size + 1 + 1 < W.heap.size := M.lt (x := (⟨w.heap.size + 1 + 1, 22, #[.int .u8 (by8 b 0), .int .u8 (by8 b 1), .int .u8 (by8 b 2), .int .u8 (by8 b 3), .int .u8 (by8 b 4), .int .u8 (by8 b 5), .int .u8 (by8 b 6), .int .u8 (by8 b 7)]⟩ : Blk)) (by simp)
  have HWW := Lib.hid (M.below HN0.out)
  have H7 := Lib.hid h7
  have H8 := Lib.hid h8
  clear M h7 h8
  go_wp2_with fail
  refine wp_region_ri 6 2 9 10 ?_ (by kernel_rfl) (by kernel_rfl) (by kernel_rfl) (by kernel_rfl) (by kernel_rfl) ?_
  · exact ⟨fun b hb => by simp [undef] at hb, fun b hb => by simp [undef] at hb, fun b c hb => by simp [undef] at hb⟩
  simp only [List.take_succ_cons, List.take_zero]
  repeat (first
    | (refine B_skip ?_ ?_; (· rfl); (try simp only [Act.put, List.setIfInBounds_toArray, List.set_cons_zero, List.set_cons_succ]))
    | (refine B_move rfl ?_ ?_; (· rfl); (try simp only [Act.eval, Act.put, Array.getD_eq_getD_getElem?, List.getElem?_toArray, List.getElem?_cons_succ, List.getElem?_cons_zero, Option.getD_some, List.setIfInBounds_toArray, List.set_cons_zero, List.set_cons_succ]))
    | (refine B_plain ?_ ?_; (· rfl); intro K hK; go_big_quiet_op; with_reducible refine hK _ ?_; clear hK K)
    | (refine B_callX (v := ?_) (f := 25) rfl (by kernel_rfl) ?_ (fun xq => ?_) ?_; rotate_left; (· rfl); (· ((simp only [List.map_toArray, List.map_cons, List.map_nil, Act.eval, Array.getD_eq_getD_getElem?, List.getElem?_toArray, List.getElem?_cons_succ, List.getElem?_cons_zero, Option.getD_some]); with_reducible apply retB; with_reducible exact (reach_any a _))); (try simp only [Act.put, List.setIfInBounds_toArray, List.set_cons_zero, List.set_cons_succ]))
    | (refine B_callX (v := ?_) (f := 25) rfl (by kernel_rfl) ?_ (fun xq => ?_) ?_; rotate_left; (· rfl); (· ((simp only [List.map_toArray, List.map_cons, List.map_nil, Act.eval, Array.getD_eq_getD_getElem?, List.getElem?_toArray, List.getElem?_cons_succ, List.getElem?_cons_zero, Option.getD_some]); with_reducible apply retB; with_reducible exact (reach_any b _))); (try simp only [Act.put, List.setIfInBounds_toArray, List.set_cons_zero, List.set_cons_succ]))
    | (refine B_new (t := 31) (z := .agg #[.int .i64 0, .int .i64 0, .int .i64 0, .int .i64 0, .int .i64 0, .int .i64 0, .int .i64 0, .int .i64 0, .int .i64 0, .int .i64 0, .int .i64 0, .int .i64 0, .int .i64 0, .int .i64 0, .int .i64 0, .int .i64 0, .int .i64 0, .int .i64 0]) rfl rfl (by kernel_rfl) ?_ ?_; (· rfl)))
  refine B_nili ?_ rfl ?_ ?_
  · kernel_rfl
  · rfl
  rintro _ ⟨⟨g2, d2⟩, rfl⟩
  simp only [fin, Act.put, List.setIfInBounds_toArray, List.set_cons_zero, List.set_cons_succ]
  rintro _ ⟨q, rfl, hq, hqb⟩ _ ⟨p, rfl, hp, hpb⟩ hap
  have hne : p ≠ q := hap.ne p q rfl rfl
  have HM1 := Lib.hid ((Mem.start W).found2 (w := plus W g2 d2) (X := [⟨p, 31, #[.int .i64 0, .int .i64 0, .int .i64 0, .int .i64 0, .int .i64 0, .int .i64 0, .int .i64 0, .int .i64 0, .int .i64 0, .int .i64 0, .int .i64 0, .int .i64 0, .int .i64 0, .int .i64 0, .int .i64 0, .int .i64 0, .int .i64 0, .int .i64 0]⟩, ⟨q, 31, #[.int .i64 0, .int .i64 0, .int .i64 0, .int .i64 0, .int .i64 0, .int .i64 0, .int .i64 0, .int .i64 0, .int .i64 0, .int .i64 0, .int .i64 0, .int .i64 0, .int .i64 0, .int .i64 0, .int .i64 0, .int .i64 0, .int .i64 0, .int .i64 0]⟩]) (by (repeat' (first | (with_reducible exact Below.refl _ _) | (with_reducible refine bplus ?_ _ _) | (with_reducible refine balloc ?_ _) | (with_reducible refine Below.drew ?_) | (with_reducible refine bdrewN ?_ _) | (with_reducible refine Below.setCell ?_ (by go_size) _)))) (fun x hx => by
    simp only [List.mem_cons, List.not_mem_nil, or_false] at hx
    rcases hx with rfl | rfl
    · exact ⟨hp, hpb⟩
    · exact ⟨hq, hqb⟩) (by simpa using hne))
  clear hap hpb hqb cA cB lA lB
  refine step_one (n := 1) (k := 6) (by kernel_rfl) (by rfl) (by rfl) ?_
  intro K hK
  refine wp_store_blk 31 (.tmp 9) (.tmp 23) rfl (B := []) HM1.out (by rfl) (dgA a) (by rfl) (by kernel_rfl) (by rw [dgA_size]; rfl) (dgA_one a) (fun w' M' => hK _ _ ?_)
  have HM2 := Lib.hid M'
  clear hK K M' HM1
  refine last_one (k := 7) (by kernel_rfl) (by kernel_rfl) (by rfl) ?_ ?_
  · rfl
  intro K hK
  refine wp_store_blk 31 (.tmp 10) (.tmp 25) rfl (B := [(⟨p, 31, dgA a⟩ : Blk)]) HM2.out (by rfl) (dgA b) (by rfl) (by kernel_rfl) (by rw [dgA_size]; rfl) (dgA_one b) (fun w' M' => hK _ _ ?_)
  have HM3 := Lib.hid (show Mem w' W [(⟨p, 31, dgA a⟩ : Blk), (⟨q, 31, dgA b⟩ : Blk)] from M')
  clear hK K M' HM2
  simp only [Act.put, List.setIfInBounds_toArray, List.set_cons_zero, List.set_cons_succ]
  have HNP : Hid (New W [(⟨p, 31, dgA a⟩ : Blk), (⟨q, 31, dgA b⟩ : Blk)]) := New.cons hp (New.cons hq (New.nil _))
  go_wp2_with fail
  go_loopw [11] (fun i wr => ∃ c : Nat, i = .int .i64 c ∧ c ≤ 18 ∧ Mem wr W [(⟨p, 31, dgA a⟩ : Blk), (⟨q, 31, dgA b⟩ : Blk)]) (fun i _ => 18 - (intOf i).toNat)
  case atStart => exact ⟨0, rfl, by omega, HM3.out⟩
  case round =>
    obtain ⟨c, rfl, hc, M⟩ := hrel
    by_cases hlt : c < 18
    · obtain ⟨st, HST⟩ : ∃ st, Hid (startF s c = st) := ⟨_, rfl⟩
      have hpa := dgt_bd a c
      have hqb := dgt_bd b c
      obtain ⟨pn, hpn⟩ : ∃ pn : Nat, dgt a c = (pn : Int) := ⟨(dgt a c).toNat, by omega⟩
      obtain ⟨qn, hqn⟩ : ∃ qn : Nat, dgt b c = (qn : Int) := ⟨(dgt b c).toNat, by omega⟩
      have hp15 : pn ≤ 15 := by omega
      have hq15 : qn ≤ 15 := by omega
      obtain ⟨z1, HZ1⟩ : ∃ z, Hid (chainF st pn = z) := ⟨_, rfl⟩
      obtain ⟨z2, HZ2⟩ : ∃ z, Hid (chainF st qn = z) := ⟨_, rfl⟩
      have HW1 : Hid (wordAt l1 c = z1) := by show _ = _; rw [← HL1.out, signB_at s a c hlt, HST.out, hpn, ← HZ1.out]; rfl
      have HW2 : Hid (wordAt l2 c = z2) := by show _ = _; rw [← HL2.out, signB_at s b c hlt, HST.out, hqn, ← HZ2.out]; rfl
      have h7 := H7.out.below (M.below HNP.out)
      have h8 := H8.out.below (M.below HNP.out)
      have HV7 := Lib.hid h7
      have HV8 := Lib.hid h8
      have HM := Lib.hid M
      clear M h7 h8
      go_wp2_with fail
      refine (shown_yes u7 l1 hl1 c hlt _ HV7.out z1 HW1.out).mono ?_
      rintro e w3 ⟨rfl, hb3⟩; obtain ⟨g3, d3, rfl⟩ := plus_of_below hb3; clear hb3
      go_wp2_with fail
      refine (shown_yes u8 l2 hl2 c hlt _ ((HV8.out.plus _ _).alloc _) z2 HW2.out).mono ?_
      rintro e w4 ⟨rfl, hb4⟩; obtain ⟨g4, d4, rfl⟩ := plus_of_below hb4; clear hb4
      go_wp2_with fail
      refine wpk_mem (fun W5 => Mem W5 W [(⟨wr.heap.size + g3.size + 1 + g4.size, 24, #[.int .u8 (by8 z2 0), .int .u8 (by8 z2 1), .int .u8 (by8 z2 2), .int .u8 (by8 z2 3), .int .u8 (by8 z2 4), .int .u8 (by8 z2 5), .int .u8 (by8 z2 6), .int .u8 (by8 z2 7)]⟩ : Blk), (⟨wr.heap.size + g3.size, 24, #[.int .u8 (by8 z1 0), .int .u8 (by8 z1 1), .int .u8 (by8 z1 2), .int .u8 (by8 z1 3), .int .u8 (by8 z1 4), .int .u8 (by8 z1 5), .int .u8 (by8 z1 6), .int .u8 (by8 z1 7)]⟩ : Blk), (⟨p, 31, dgA a⟩ : Blk), (⟨q, 31, dgA b⟩ : Blk)]) (((((HM.out.plus _ _).key #[.int .u8 (by8 z1 0), .int .u8 (by8 z1 1), .int .u8 (by8 z1 2), .int .u8 (by8 z1 3), .int .u8 (by8 z1 4), .int .u8 (by8 z1 5), .int .u8 (by8 z1 6), .int .u8 (by8 z1 7)] 24 (wr.heap.size + g3.size) (by simp)).plus _ _).key #[.int .u8 (by8 z2 0), .int .u8 (by8 z2 1), .int .u8 (by8 z2 2), .int .u8 (by8 z2 3), .int .u8 (by8 z2 4), .int .u8 (by8 z2 5), .int .u8 (by8 z2 6), .int .u8 (by8 z2 7)] 24 (wr.heap.size + g3.size + 1 + g4.size) (by simp))) ?_
      intro W5 M5
      have cX := M5.cell (b := wr.heap.size + g3.size) (t := 24) (cs := #[.int .u8 (by8 z1 0), .int .u8 (by8 z1 1), .int .u8 (by8 z1 2), .int .u8 (by8 z1 3), .int .u8 (by8 z1 4), .int .u8 (by8 z1 5), .int .u8 (by8 z1 6), .int .u8 (by8 z1 7)]) (by simp)
      have cY := M5.cell (b := wr.heap.size + g3.size + 1 + g4.size) (t := 24) (cs := #[.int .u8 (by8 z2 0), .int .u8 (by8 z2 1), .int .u8 (by8 z2 2), .int .u8 (by8 z2 3), .int .u8 (by8 z2 4), .int .u8 (by8 z2 5), .int .u8 (by8 z2 6), .int .u8 (by8 z2 7)]) (by simp)
      have cP : W5.cell? ⟨p, c, none⟩ = some (.int .i64 pn) := by rw [M5.cell (b := p) (t := 31) (cs := dgA a) (by simp) c, dgA_get a c hlt, hpn]
      have cQ : W5.cell? ⟨q, c, none⟩ = some (.int .i64 qn) := by rw [M5.cell (b := q) (t := 31) (cs := dgA b) (by simp) c, dgA_get b c hlt, hqn]
      have lX : wr.heap.size + g3.size < W5.heap.size := M5.lt (x := (⟨wr.heap.size + g3.size, 24, #[.int .u8 (by8 z1 0), .int .u8 (by8 z1 1), .int .u8 (by8 z1 2), .int .u8 (by8 z1 3), .int .u8 (by8 z1 4), .int .u8 (by8 z1 5), .int .u8 (by8 z1 6), .int .u8 (by8 z1 7)]⟩ : Blk)) (by simp)
      have lY : wr.heap.size + g3.size + 1 + g4.size < W5.heap.size := M5.lt (x := (⟨wr.heap.size + g3.size + 1 + g4.size, 24, #[.int .u8 (by8 z2 0), .int .u8 (by8 z2 1), .int .u8 (by8 z2 2), .int .u8 (by8 z2 3), .int .u8 (by8 z2 4), .int .u8 (by8 z2 5), .int .u8 (by8 z2 6), .int .u8 (by8 z2 7)]⟩ : Blk)) (by simp)
      have lP : p < W5.heap.size := M5.lt (x := (⟨p, 31, dgA a⟩ : Blk)) (by simp)
      have lQ : q < W5.heap.size := M5.lt (x := (⟨q, 31, dgA b⟩ : Blk)) (by simp)
      have hci : (c : Int) < 18 := by omega
      have hsz := HM.out.size
      have HM5 := Lib.hid ((M5.drop (by show W.heap.size ≤ wr.heap.size + g3.size + 1 + g4.size; omega)).drop (by show W.heap.size ≤ wr.heap.size + g3.size; omega))
      clear M5 HM hpa hqb hpn hqn hsz
      by_cases hpq : qn ≤ pn
      · have hd1 : decide ((qn : Int) ≤ (pn : Int)) = true := by rw [decide_eq_true_iff]; omega
        have hd2 : decide ((pn : Int) < (qn : Int)) = false := by rw [decide_eq_false_iff_not]; omega
        have hd3 : decide (pn < qn) = false := by rw [decide_eq_false_iff_not]; omega
        obtain ⟨k, hk⟩ : ∃ k : Nat, pn - qn = k := ⟨_, rfl⟩
        have hsub : (pn : Int) - (qn : Int) = (k : Int) := by omega
        have hk15 : k ≤ 15 := by omega
        have HK : Hid ((k : Int) = ((k : Nat) : Int)) := rfl
        have HK2 : Hid (k ≤ 1048576) := by show _ ≤ _; omega
        have HCH : Hid (chainF z2 k = z1) := by show _ = _; rw [← HZ2.out, chainF_add, ← HZ1.out]; congr 1; omega
        refine wp_region_rq (by kernel_rfl) (by kernel_rfl) (by kernel_rfl) ?_
        repeat (first
          | (refine B_skip ?_ ?_; (· rfl); (try simp only [Act.put, List.setIfInBounds_toArray, List.set_cons_zero, List.set_cons_succ]))
          | (refine B_move rfl ?_ ?_; (· rfl); (try simp only [Act.eval, Act.put, Array.getD_eq_getD_getElem?, List.getElem?_toArray, List.getElem?_cons_succ, List.getElem?_cons_zero, Option.getD_some, List.setIfInBounds_toArray, List.set_cons_zero, List.set_cons_succ]))
          | (refine B_plain ?_ ?_; (· rfl); intro K hK; go_big_quiet_op; with_reducible refine hK _ ?_; clear hK K)
          | (refine B_callX (v := ?_) (f := 33) rfl (by kernel_rfl) ?_ (fun xq => ?_) ?_; rotate_left; (· rfl); (· ((simp only [List.map_toArray, List.map_cons, List.map_nil, Act.eval, Array.getD_eq_getD_getElem?, List.getElem?_toArray, List.getElem?_cons_succ, List.getElem?_cons_zero, Option.getD_some]); with_reducible apply retB; with_reducible exact (chain_int z2 z1 _ k HK.out HK2.out HCH.out _))); (try simp only [Act.put, List.setIfInBounds_toArray, List.set_cons_zero, List.set_cons_succ])))
        refine B_nil ?_ rfl ?_ ?_
        · kernel_rfl
        · rfl
        rintro _ ⟨⟨g8, d8⟩, rfl⟩
        simp only [fin, Act.put, List.setIfInBounds_toArray, List.set_cons_zero, List.set_cons_succ]
        go_wp2
        go_roundw
        case rel => exact ⟨c + 1, by go_num, by omega, HM5.out.plus _ _⟩
        case measure => simp [intOf]; omega
      · have hd1 : decide ((qn : Int) ≤ (pn : Int)) = false := by rw [decide_eq_false_iff_not]; omega
        have hd3 : decide (qn ≤ pn) = false := by rw [decide_eq_false_iff_not]; omega
        have hd2 : decide ((pn : Int) < (qn : Int)) = true := by rw [decide_eq_true_iff]; omega
        have hpq2 : pn < qn := by omega
        obtain ⟨k, hk⟩ : ∃ k : Nat, qn - pn = k := ⟨_, rfl⟩
        have hsub : (qn : Int) - (pn : Int) = (k : Int) := by omega
        have hk15 : k ≤ 15 := by omega
        have HK : Hid ((k : Int) = ((k : Nat) : Int)) := rfl
        have HK2 : Hid (k ≤ 1048576) := by show _ ≤ _; omega
        have HCH : Hid (chainF z1 k = z2) := by show _ = _; rw [← HZ1.out, chainF_add, ← HZ2.out]; congr 1; omega
        refine wp_region_rq (by kernel_rfl) (by kernel_rfl) (by kernel_rfl) ?_
        repeat (first
          | (refine B_skip ?_ ?_; (· rfl); (try simp only [Act.put, List.setIfInBounds_toArray, List.set_cons_zero, List.set_cons_succ]))
          | (refine B_move rfl ?_ ?_; (· rfl); (try simp only [Act.eval, Act.put, Array.getD_eq_getD_getElem?, List.getElem?_toArray, List.getElem?_cons_succ, List.getElem?_cons_zero, Option.getD_some, List.setIfInBounds_toArray, List.set_cons_zero, List.set_cons_succ]))
          | (refine B_plain ?_ ?_; (· rfl); intro K hK; go_big_quiet_op; with_reducible refine hK _ ?_; clear hK K)
          | (refine B_callX (v := ?_) (f := 33) rfl (by kernel_rfl) ?_ (fun xq => ?_) ?_; rotate_left; (· rfl); (· ((simp only [List.map_toArray, List.map_cons, List.map_nil, Act.eval, Array.getD_eq_getD_getElem?, List.getElem?_toArray, List.getElem?_cons_succ, List.getElem?_cons_zero, Option.getD_some]); with_reducible apply retB; with_reducible exact (chain_int z1 z2 _ k HK.out HK2.out HCH.out _))); (try simp only [Act.put, List.setIfInBounds_toArray, List.set_cons_zero, List.set_cons_succ])))
        refine B_nil ?_ rfl ?_ ?_
        · kernel_rfl
        · rfl
        rintro _ ⟨⟨g8, d8⟩, rfl⟩
        simp only [fin, Act.put, List.setIfInBounds_toArray, List.set_cons_zero, List.set_cons_succ]
        go_wp2
        go_roundw
        case rel => exact ⟨c + 1, by go_num, by omega, HM5.out.plus _ _⟩
        case measure => simp [intOf]; omega
    · obtain rfl : c = 18 := by omega
      have HBW := Lib.hid (Below.trans HWW.out ((M.below HNP.out).mono HWW.out.size))
      clear M
      go_wp2_with fail
      refine (known05_any _).mono ?_
      rintro e w9 ⟨rfl, hb9⟩; obtain ⟨g9, d9, rfl⟩ := plus_of_below hb9; clear hb9
      go_wp2
      go_ret
      exact ⟨rfl, bplus HBW.out _ _⟩

end Go.Proofs.Ythdcfdfpfagamaa
