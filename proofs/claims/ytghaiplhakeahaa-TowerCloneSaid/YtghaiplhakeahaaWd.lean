/- tower: contract of Clone. -/
import Derived.Test.YtghaiplhakeahaaWc
import Derived.Test.YtghaiplhakeahaaInv
namespace Go.Proofs.Ytghaiplhakeahaa
set_option linter.unusedSimpArgs false
set_option linter.unusedVariables false
open Go.RowKit Go.WideMaps Go.ChangeMaps Go.Maps

theorem dis_take {al : List AP} (h : Dis al) {i : Nat} (hi : i < al.length) : idx (al.take i) (al.getD i default).h = none := by
  unfold idx
  rw [List.findIdx?_eq_none_iff]
  intro a ha
  obtain ⟨j, hj, rfl⟩ := List.getElem_of_mem ha
  have hji : j < i := by simp at hj; omega
  have hp := List.pairwise_iff_getElem.1 h j i (by simp; omega) (by simpa using hi) hji
  simp only [List.getElem_map] at hp
  rw [List.getD_eq_getElem?_getD, List.getElem?_eq_getElem hi]
  simpa using hp
theorem take_snoc (al : List AP) {i : Nat} (hi : i < al.length) : al.take (i + 1) = al.take i ++ [al.getD i default] := by
  rw [List.take_succ_eq_append_getElem hi, List.getD_eq_getElem?_getD, List.getElem?_eq_getElem hi]
  rfl
theorem tclone_nil (w : World) : Calls Try.prog 51 #[.pointer none] w fun e w' => e = .returned (.pointer none) ∧ w' = w := by
  go_enter Try.func51, Try.ntmps51
  go_wp2
  go_ret
  exact ⟨rfl, rfl⟩
set_option maxRecDepth 100000 in
set_option maxHeartbeats 8000000 in
theorem tclone_to (p : Nat) (T : TWS) (hT : TOk T) (w w0 : World) (C X : List Blk) (H : Tw w w0 C X [] p T) :
    Calls Try.prog 51 #[tptr p] w fun e w' => ∃ q N, e = .returned (tptr q) ∧ Tw2 w' w0 C (N ++ X) p T q T := by
  obtain ⟨tv, m, es, ck, R, vs, O, D⟩ := H.open_
  obtain ⟨ak, kcap, rfl⟩ := D.row.slice
  have HD := Lib.hid D
  have HO := Lib.hid O
  have HT := Lib.hid hT
  have hmaxl : T.all.length ≤ 4096 := Nat.le_trans hT.len hT.room
  clear O D hT H
  go_enter Try.func51, Try.ntmps51
  go_wp2_with fail
  refine wp_region_o2 [8, 9, 10, 11, 12, 13, 14, 15, 16, 17, 18, 19, 3] (fun L (x : Nat × Nat) => [(L 0, 8, tptr p), (L 1, 9, tptr p), (L 2, 10, tptr p), (L 3, 11, .int .i64 T.room), (L 4, 12, tptr p), (L 5, 13, tptr p), (L 6, 14, .pointer (some ⟨p, 1, none⟩)), (L 7, 15, .slice ak T.all.length kcap), (L 8, 16, .int .i64 T.all.length), (L 9, 17, bif L 9 then .map (some x.1) else undef), (L 10, 18, bif L 10 then .agg #[.int .i64 T.room, .slice none 0 0, .map (some x.1)] else undef), (L 11, 19, bif L 11 then tptr x.2 else undef), (L 12, 3, bif L 12 then tptr x.2 else undef)])
    (fun L x W => Omw W w0 ((bif L 11 then [⟨x.2, 122, #[.int .i64 T.room, .slice none 0 0, .map (some x.1)]⟩] else []) ++ (⟨p, 122, #[.int .i64 T.room, .slice ak T.all.length kcap, .map (some m)]⟩ :: (R ++ (C ++ X)))) ((bif L 9 then [(x.1, .map #[] 0)] else []) ++ [(m, .map es ck)])) (0, 0) (by kernel_rfl) (by kernel_rfl) 50 (by rfl) (fun _ _ => rfl) (by kernel_rfl) (by kernel_rfl) (by kernel_rfl) (by rfl) (by simpa using HO.out.drew) ?_ ⟨?_, ?_, ?_, ?_, ?_, ?_, ?_, ?_, ?_, ?_, ?_, ?_, ?_, trivial⟩
  rotate_left
  · (intro L x W hW hC hL hd B K hB hK; (try simp [depsB, Region.binds] at hd); (try simp only [Nat.reduceAdd] at hK hL); (have e0 := hB.out 0); (simp (decide := true) only [look, if_true, if_false, hd, cond_true, cond_false, Array.getD_eq_getD_getElem?, List.getElem?_toArray, List.getElem?_cons_succ, List.getElem?_cons_zero, Option.getD_some] at e0); go_simp; exact hK.out (tptr p) x W (by simp (decide := true) [putO, setF, upd]) hW)
  · (intro L x W hW hC hL hd B K hB hK; (try simp [depsB, Region.binds] at hd); (try simp only [Nat.reduceAdd] at hK hL); (have e8 := hB.out 8); (simp (decide := true) only [look, if_true, if_false, hd, cond_true, cond_false, Array.getD_eq_getD_getElem?, List.getElem?_toArray, List.getElem?_cons_succ, List.getElem?_cons_zero, Option.getD_some] at e8); go_simp; exact hK.out (tptr p) x W (by simp (decide := true) [putO, setF, upd]) hW)
  · (intro L x W hW hC hL hd B K hB hK; (try simp [depsB, Region.binds] at hd); (try simp only [Nat.reduceAdd] at hK hL); (have e9 := hB.out 9); (simp (decide := true) only [look, if_true, if_false, hd, cond_true, cond_false, Array.getD_eq_getD_getElem?, List.getElem?_toArray, List.getElem?_cons_succ, List.getElem?_cons_zero, Option.getD_some] at e9); go_simp; exact hK.out (tptr p) x W (by simp (decide := true) [putO, setF, upd]) hW)
  · (intro L x W hW hC hL hd B K hB hK; (try simp [depsB, Region.binds] at hd); (try simp only [Nat.reduceAdd] at hK hL); (have e10 := hB.out 10); (simp (decide := true) only [look, if_true, if_false, hd, cond_true, cond_false, Array.getD_eq_getD_getElem?, List.getElem?_toArray, List.getElem?_cons_succ, List.getElem?_cons_zero, Option.getD_some] at e10); (have hq := hW.blk (b := p) (t := 122) (cs := #[.int .i64 T.room, .slice ak T.all.length kcap, .map (some m)]) (by simp)); (have q0 := hq.cell 0); (have q1 := hq.cell 1); (have lq := hq.lt); (simp only [List.getElem?_toArray, List.getElem?_cons_succ, List.getElem?_cons_zero] at q0 q1); clear hq; go_simp; exact hK.out (.int .i64 T.room) x W (by simp (decide := true) [putO, setF, upd]) hW)
  · (intro L x W hW hC hL hd B K hB hK; (try simp [depsB, Region.binds] at hd); (try simp only [Nat.reduceAdd] at hK hL); (have e0 := hB.out 0); (simp (decide := true) only [look, if_true, if_false, hd, cond_true, cond_false, Array.getD_eq_getD_getElem?, List.getElem?_toArray, List.getElem?_cons_succ, List.getElem?_cons_zero, Option.getD_some] at e0); go_simp; exact hK.out (tptr p) x W (by simp (decide := true) [putO, setF, upd]) hW)
  · (intro L x W hW hC hL hd B K hB hK; (try simp [depsB, Region.binds] at hd); (try simp only [Nat.reduceAdd] at hK hL); (have e12 := hB.out 12); (simp (decide := true) only [look, if_true, if_false, hd, cond_true, cond_false, Array.getD_eq_getD_getElem?, List.getElem?_toArray, List.getElem?_cons_succ, List.getElem?_cons_zero, Option.getD_some] at e12); go_simp; exact hK.out (tptr p) x W (by simp (decide := true) [putO, setF, upd]) hW)
  · (intro L x W hW hC hL hd B K hB hK; (try simp [depsB, Region.binds] at hd); (try simp only [Nat.reduceAdd] at hK hL); (have e13 := hB.out 13); (simp (decide := true) only [look, if_true, if_false, hd, cond_true, cond_false, Array.getD_eq_getD_getElem?, List.getElem?_toArray, List.getElem?_cons_succ, List.getElem?_cons_zero, Option.getD_some] at e13); go_simp; exact hK.out (.pointer (some ⟨p, 1, none⟩)) x W (by simp (decide := true) [putO, setF, upd]) hW)
  · (intro L x W hW hC hL hd B K hB hK; (try simp [depsB, Region.binds] at hd); (try simp only [Nat.reduceAdd] at hK hL); (have e14 := hB.out 14); (simp (decide := true) only [look, if_true, if_false, hd, cond_true, cond_false, Array.getD_eq_getD_getElem?, List.getElem?_toArray, List.getElem?_cons_succ, List.getElem?_cons_zero, Option.getD_some] at e14); (have hq := hW.blk (b := p) (t := 122) (cs := #[.int .i64 T.room, .slice ak T.all.length kcap, .map (some m)]) (by simp)); (have q0 := hq.cell 0); (have q1 := hq.cell 1); (have lq := hq.lt); (simp only [List.getElem?_toArray, List.getElem?_cons_succ, List.getElem?_cons_zero] at q0 q1); clear hq; go_simp; exact hK.out (.slice ak T.all.length kcap) x W (by simp (decide := true) [putO, setF, upd]) hW)
  · (intro L x W hW hC hL hd B K hB hK; (try simp [depsB, Region.binds] at hd); (try simp only [Nat.reduceAdd] at hK hL); (have e15 := hB.out 15); (simp (decide := true) only [look, if_true, if_false, hd, cond_true, cond_false, Array.getD_eq_getD_getElem?, List.getElem?_toArray, List.getElem?_cons_succ, List.getElem?_cons_zero, Option.getD_some] at e15); go_simp; exact hK.out (.int .i64 T.all.length) x W (by simp (decide := true) [putO, setF, upd]) hW)
  · intro L x W hW hC hL hd B K hB hK; (try simp [depsB, Region.binds] at hd); (try simp only [Nat.reduceAdd] at hK hL)
    (have e16 := hB.out 16); (simp (decide := true) only [look, if_true, if_false, hd, cond_true, cond_false, Array.getD_eq_getD_getElem?, List.getElem?_toArray, List.getElem?_cons_succ, List.getElem?_cons_zero, Option.getD_some] at e16)
    have h10 : L 10 = false := by cases hl : L 10 with | false => rfl | true => have hx := hC 10 _ rfl hl; simp [depsB, Region.binds, hL] at hx
    have h11 : L 11 = false := by cases hl : L 11 with | false => rfl | true => have hx := hC 11 _ rfl hl; simp [depsB, Region.binds, h10] at hx
    have h12 : L 12 = false := by cases hl : L 12 with | false => rfl | true => have hx := hC 12 _ rfl hl; simp [depsB, Region.binds, h11] at hx
    refine wp_ran (W' := W.alloc (.map #[] 0)) (v := .map (some W.heap.size)) (by simp [execOp, Act.eval, e16, make_mapI, Result.andThen]) ?_
    simp only [hL, h11, cond_false, List.nil_append] at hW
    have hW2 := hW.keyMap W.heap.size rfl
    refine hK.out (.map (some W.heap.size)) (W.heap.size, x.2) _ (by simp (decide := true) [putO, setF, upd, h10, h11, h12]) ?_
    simpa [upd, h11] using hW2
  · (intro L x W hW hC hL hd B K hB hK; (try simp [depsB, Region.binds] at hd); (try simp only [Nat.reduceAdd] at hK hL); (have e11 := hB.out 11); (simp (decide := true) only [look, if_true, if_false, hd, cond_true, cond_false, Array.getD_eq_getD_getElem?, List.getElem?_toArray, List.getElem?_cons_succ, List.getElem?_cons_zero, Option.getD_some] at e11); (have e17 := hB.out 17); (simp (decide := true) only [look, if_true, if_false, hd, cond_true, cond_false, Array.getD_eq_getD_getElem?, List.getElem?_toArray, List.getElem?_cons_succ, List.getElem?_cons_zero, Option.getD_some] at e17); go_simp; exact hK.out (.agg #[.int .i64 T.room, .slice none 0 0, .map (some x.1)]) x W (by simp (decide := true) [putO, setF, upd]) hW)
  · intro L x W hW hC hL hd B K hB hK; (try simp [depsB, Region.binds] at hd); (try simp only [Nat.reduceAdd] at hK hL)
    (have e18 := hB.out 18); (simp (decide := true) only [look, if_true, if_false, hd, cond_true, cond_false, Array.getD_eq_getD_getElem?, List.getElem?_toArray, List.getElem?_cons_succ, List.getElem?_cons_zero, Option.getD_some] at e18)
    have h12 : L 12 = false := by cases hl : L 12 with | false => rfl | true => have hx := hC 12 _ rfl hl; simp [depsB, Region.binds, hL] at hx
    have h9 : L 9 = true := by have hx := hC 10 _ rfl (by simp only [hd]); simp [depsB, Region.binds] at hx; simp only [hx]
    simp only [hL, h9, cond_true, cond_false, List.nil_append, List.cons_append] at hW
    have hW2 := hW.key #[.int .i64 T.room, .slice none 0 0, .map (some x.1)] 122 W.heap.size rfl
    (try dsimp only)
    go_simp
    refine hK.out (tptr W.heap.size) (x.1, W.heap.size) _ (by simp (decide := true) [putO, setF, upd, h12]) ?_
    simpa [upd, h9] using hW2
  · (intro L x W hW hC hL hd B K hB hK; (try simp [depsB, Region.binds] at hd); (try simp only [Nat.reduceAdd] at hK hL); (have e19 := hB.out 19); (simp (decide := true) only [look, if_true, if_false, hd, cond_true, cond_false, Array.getD_eq_getD_getElem?, List.getElem?_toArray, List.getElem?_cons_succ, List.getElem?_cons_zero, Option.getD_some] at e19); go_simp; exact hK.out (tptr x.2) x W (by simp (decide := true) [putO, setF, upd]) hW)
  intro x9 W9 hW9
  simp only [ovl, cond_true, Array.getD_eq_getD_getElem?, List.getElem?_toArray, List.getElem?_cons_succ, List.getElem?_cons_zero, Option.getD_some, List.setIfInBounds_toArray, List.set_cons_zero, List.set_cons_succ]
  (try simp only [cond_true] at hW9)
  obtain ⟨mq, q⟩ := x9
  simp only at hW9 ⊢
  have HO9 : Hid (Omw W9 w0 (⟨p, 122, #[.int .i64 T.room, .slice ak T.all.length kcap, .map (some m)]⟩ :: (R ++ (⟨q, 122, #[.int .i64 T.room, .slice none 0 0, .map (some mq)]⟩ :: ([] ++ (C ++ ([] ++ X)))))) [(m, .map es ck), (mq, .map #[] 0)]) := (hW9.perm (perm_cnt fun x => by simp only [cnt_append, cnt_cons, cnt_nil] <;> omega)).permK (List.Perm.swap _ _ _)
  (have hq := HO9.out.blk (b := p) (t := 122) (cs := #[.int .i64 T.room, .slice ak T.all.length kcap, .map (some m)]) (by simp)); (have p1 : W9.cell? ⟨p, 1, none⟩ = some (.slice ak T.all.length kcap) := hq.cell 1); (have lp := hq.lt); clear hq
  clear hW9 HO
  go_wp2_with fail
  go_loopw [25] (fun vi wr => ∃ (i : Nat) (tq : Value) (es' : Array MapEntry) (ck' : Nat) (RQ : List Blk) (us : List Value) (N : List Blk), vi = .int .i64 i ∧ i ≤ T.all.length ∧ TwB w0 (N ++ X) ⟨T.room, T.all.take i⟩ tq es' ck' RQ us ∧ Omw wr w0 (⟨p, 122, #[.int .i64 T.room, .slice ak T.all.length kcap, .map (some m)]⟩ :: (R ++ (⟨q, 122, #[.int .i64 T.room, tq, .map (some mq)]⟩ :: (RQ ++ (C ++ (N ++ X)))))) [(m, .map es ck), (mq, .map es' ck')]) (fun vi _ => T.all.length - (intOf vi).toNat)
  case atStart => exact ⟨0, .slice none 0 0, #[], 0, [], [], [], rfl, by omega, ⟨.void, rfl, Msgs.nil _ _, MapD.empty⟩, HO9.out⟩
  case round =>
    clear HO9 p1 lp
    obtain ⟨i, tq, es', ck', RQ, us, N, rfl, hi, hDq, hO⟩ := hrel
    have HDQ := Lib.hid hDq
    have HOr := Lib.hid hO
    by_cases hlt : i < T.all.length
    · obtain ⟨r, kcap', cur, hsl, hkc, -, -, -, -, HR, hcell⟩ := HD.out.at_ (C := [_]) hO hlt
      cases hsl
      have hil : (T.all.take i).length = i := by simp; omega
      obtain ⟨aq, cq, rfl⟩ := hDq.row.slice
      simp only [hil] at HOr hO
      have hcl := fun j => HR.cell j
      have rl : r < wr.heap.size := HR.lt
      obtain ⟨y, hy⟩ : ∃ y, T.all.getD i default = y := ⟨_, rfl⟩
      obtain ⟨bv, hbv⟩ : ∃ y, vs.getD i undef = y := ⟨_, rfl⟩
      rw [hy, hbv] at hcell
      have a0 : wr.cell? ⟨r, i * 10, none⟩ = some (.int .u8 (by8 y.h 0)) := by rw [hcl]; exact hcell 0 (by omega)
      have a1 : wr.cell? ⟨r, i * 10 + 1, none⟩ = some (.int .u8 (by8 y.h 1)) := by rw [hcl]; exact hcell 1 (by omega)
      have a2 : wr.cell? ⟨r, i * 10 + 2, none⟩ = some (.int .u8 (by8 y.h 2)) := by rw [hcl]; exact hcell 2 (by omega)
      have a3 : wr.cell? ⟨r, i * 10 + 3, none⟩ = some (.int .u8 (by8 y.h 3)) := by rw [hcl]; exact hcell 3 (by omega)
      have a4 : wr.cell? ⟨r, i * 10 + 4, none⟩ = some (.int .u8 (by8 y.h 4)) := by rw [hcl]; exact hcell 4 (by omega)
      have a5 : wr.cell? ⟨r, i * 10 + 5, none⟩ = some (.int .u8 (by8 y.h 5)) := by rw [hcl]; exact hcell 5 (by omega)
      have a6 : wr.cell? ⟨r, i * 10 + 6, none⟩ = some (.int .u8 (by8 y.h 6)) := by rw [hcl]; exact hcell 6 (by omega)
      have a7 : wr.cell? ⟨r, i * 10 + 7, none⟩ = some (.int .u8 (by8 y.h 7)) := by rw [hcl]; exact hcell 7 (by omega)
      have a8 : wr.cell? ⟨r, i * 10 + 8, none⟩ = some (.int .i64 y.n) := by rw [hcl]; exact hcell 8 (by omega)
      have a9 : wr.cell? ⟨r, i * 10 + 9, none⟩ = some (bv) := by rw [hcl]; exact hcell 9 (by omega)
      have hbm : Msg w0 X bv y.l := by
        obtain ⟨b2, h1, h2⟩ := HD.out.box.get i (by simpa using hlt)
        have h3 : (T.all.map (·.l)).getD i [] = y.l := by
          rw [← hy, List.getD_eq_getElem?_getD, List.getD_eq_getElem?_getD, List.getElem?_map, List.getElem?_eq_getElem hlt]; rfl
        rw [h3] at h2
        rw [← hbv, List.getD_eq_getElem?_getD, h1]
        exact h2
      obtain ⟨ab, cb, rfl⟩ := hbm.slice
      have hbs := hbm.bsl hO.ow (by intro x hx; simp [hx])
      have HBS := Lib.hid hbs
      have hyl : y.l.length ≤ 32776 := HT.out.box y (by rw [← hy, List.getD_eq_getElem?_getD, List.getElem?_eq_getElem hlt]; exact List.getElem_mem _)
      have HIX : Hid (idx (T.all.take i) y.h = none) := by show _ = _; rw [← hy]; exact dis_take HT.out.dis hlt
      have HTS : Hid (T.all.take (i + 1) = T.all.take i ++ [y]) := by show _ = _; rw [← hy]; exact take_snoc T.all hlt
      have HIL := Lib.hid hil
      have HR0 := Lib.hid hDq.row
      simp only [hil] at HR0
      clear HR hcell hcl hy hbv hbm hbs hDq hO hil
      go_wp2_with fail
      obtain ⟨b5, hb5⟩ : ∃ b, b = wr.heap.size := ⟨_, rfl⟩
      have O2 : Omw (wr.alloc (.cells #[.int .u8 (by8 y.h 0), .int .u8 (by8 y.h 1), .int .u8 (by8 y.h 2), .int .u8 (by8 y.h 3), .int .u8 (by8 y.h 4), .int .u8 (by8 y.h 5), .int .u8 (by8 y.h 6), .int .u8 (by8 y.h 7), .int .i64 y.n, .slice ab y.l.length cb] 29)) w0 (⟨wr.heap.size, 29, #[.int .u8 (by8 y.h 0), .int .u8 (by8 y.h 1), .int .u8 (by8 y.h 2), .int .u8 (by8 y.h 3), .int .u8 (by8 y.h 4), .int .u8 (by8 y.h 5), .int .u8 (by8 y.h 6), .int .u8 (by8 y.h 7), .int .i64 y.n, .slice ab y.l.length cb]⟩ :: (⟨p, 122, #[.int .i64 T.room, .slice (some ⟨r, 0, none⟩) T.all.length kcap, .map (some m)]⟩ :: (R ++ (⟨q, 122, #[.int .i64 T.room, .slice aq i cq, .map (some mq)]⟩ :: (RQ ++ (C ++ (N ++ X))))))) [(m, .map es ck), (mq, .map es' ck')] := (HOr.out.key #[.int .u8 (by8 y.h 0), .int .u8 (by8 y.h 1), .int .u8 (by8 y.h 2), .int .u8 (by8 y.h 3), .int .u8 (by8 y.h 4), .int .u8 (by8 y.h 5), .int .u8 (by8 y.h 6), .int .u8 (by8 y.h 7), .int .i64 y.n, .slice ab y.l.length cb] 29 wr.heap.size rfl).perm (perm_cnt fun x => by simp only [cnt_append, cnt_cons, cnt_nil] <;> omega)
      have V2 := HBS.out.alloc (.cells #[.int .u8 (by8 y.h 0), .int .u8 (by8 y.h 1), .int .u8 (by8 y.h 2), .int .u8 (by8 y.h 3), .int .u8 (by8 y.h 4), .int .u8 (by8 y.h 5), .int .u8 (by8 y.h 6), .int .u8 (by8 y.h 7), .int .i64 y.n, .slice ab y.l.length cb] 29)
      simp only [← hb5] at O2 ⊢
      refine wp_opq (fun W => Omw W w0 (⟨b5, 29, #[.int .u8 (by8 y.h 0), .int .u8 (by8 y.h 1), .int .u8 (by8 y.h 2), .int .u8 (by8 y.h 3), .int .u8 (by8 y.h 4), .int .u8 (by8 y.h 5), .int .u8 (by8 y.h 6), .int .u8 (by8 y.h 7), .int .i64 y.n, .slice ab y.l.length cb]⟩ :: (⟨p, 122, #[.int .i64 T.room, .slice (some ⟨r, 0, none⟩) T.all.length kcap, .map (some m)]⟩ :: (R ++ (⟨q, 122, #[.int .i64 T.room, .slice aq i cq, .map (some mq)]⟩ :: (RQ ++ (C ++ (N ++ X))))))) [(m, .map es ck), (mq, .map es' ck')] ∧ BSl W (.slice ab y.l.length cb) y.l) ⟨O2, V2⟩ ?_
      rintro W2 ⟨O3, V3⟩
      have HO3 := Lib.hid O3
      have HV3 := Lib.hid V3
      (have hq := O3.blk (b := q) (t := 122) (cs := #[.int .i64 T.room, .slice aq i cq, .map (some mq)]) (by simp)); (have c1 : W2.cell? ⟨q, 1, none⟩ = some (.slice aq i cq) := hq.cell 1); (have lq := hq.lt); clear hq
      (have hq := O3.blk (b := b5) (t := 29) (cs := #[.int .u8 (by8 y.h 0), .int .u8 (by8 y.h 1), .int .u8 (by8 y.h 2), .int .u8 (by8 y.h 3), .int .u8 (by8 y.h 4), .int .u8 (by8 y.h 5), .int .u8 (by8 y.h 6), .int .u8 (by8 y.h 7), .int .i64 y.n, .slice ab y.l.length cb]) (by simp)); (have y0 := hq.cell 0); (have y1 := hq.cell 1); (have y2 := hq.cell 2); (have y3 := hq.cell 3); (have y4 := hq.cell 4); (have y5 := hq.cell 5); (have y6 := hq.cell 6); (have y7 := hq.cell 7); (have y8 := hq.cell 8); (have y9 := hq.cell 9); (have ly := hq.lt); (simp only [List.getElem?_toArray, List.getElem?_cons_succ, List.getElem?_cons_zero] at y0 y1 y2 y3 y4 y5 y6 y7 y8 y9); clear hq
      have T3 : Hid (∀ g d, Calls Try.prog 63 #[.agg #[.int .u8 (by8 y.h 0), .int .u8 (by8 y.h 1), .int .u8 (by8 y.h 2), .int .u8 (by8 y.h 3), .int .u8 (by8 y.h 4), .int .u8 (by8 y.h 5), .int .u8 (by8 y.h 6), .int .u8 (by8 y.h 7), .int .i64 y.n, .slice ab y.l.length cb]] (plus W2 g d) fun e w' => ∃ u, e = .returned u ∧ Below (plus W2 g d).heap.size (plus W2 g d) w' ∧ ApC W2.heap.size y.h y.n y.l u w') := fun g d => by
        refine (aclone_to y.h y.n _ y.l (by omega) _ (V3.plus g d)).mono ?_
        rintro e w' ⟨u, h1, h2, h3⟩
        exact ⟨_, h1, h2, u, rfl, h3.base (by simp)⟩
      clear O2 V2 O3 V3 hb5 HOr HBS a0 a1 a2 a3 a4 a5 a6 a7 a8 a9 rl
      (try simp only [Act.put, List.getElem_toArray, List.getElem_cons_succ, List.getElem_cons_zero])
      refine wp_region_rdk 7 4 rfl rfl (by kernel_rfl) (by kernel_rfl) (by kernel_rfl) (by kernel_rfl) (by kernel_rfl) (by rfl) ?_
      simp only [List.take_succ_cons, List.take_zero, Act.put, List.setIfInBounds_toArray, List.set_cons_zero, List.set_cons_succ]
      repeat (first
        | (refine B_skip ?_ ?_; (· rfl); (try simp only [Act.put, List.setIfInBounds_toArray, List.set_cons_zero, List.set_cons_succ]))
        | (refine B_move rfl ?_ ?_; (· rfl); (try simp only [Act.eval, Act.put, Array.getD_eq_getD_getElem?, List.getElem?_toArray, List.getElem?_cons_succ, List.getElem?_cons_zero, Option.getD_some, List.setIfInBounds_toArray, List.set_cons_zero, List.set_cons_succ]))
        | (refine B_plain ?_ ?_; (· rfl); intro K hK; go_big_quiet_op; with_reducible refine hK _ ?_; clear hK K)
        | (refine B_callR (ApC W2.heap.size y.h y.n y.l) (stays_apc _ _ _ _) (f := 63) rfl rfl (by kernel_rfl) ?_ (fun xq => ?_) ?_; (· rfl); (· ((simp only [List.map_toArray, List.map_cons, List.map_nil, Act.eval, Array.getD_eq_getD_getElem?, List.getElem?_toArray, List.getElem?_cons_succ, List.getElem?_cons_zero, Option.getD_some]); (with_reducible apply retR); with_reducible exact T3.out _ _)))
        | (refine B_nilck rfl rfl ?_ ?_; (· rfl); (try simp only [Act.put, List.setIfInBounds_toArray, List.set_cons_zero, List.set_cons_succ]))
        | (refine B_newslA elt_app rfl (s := 36) rfl rfl (stays_apc _ _ _ _) (by omega) (apc_agg _ _ _ _) ?_ ?_; (· rfl)))
      refine B_nil ?_ rfl ?_ ?_
      · kernel_rfl
      · rfl
      rintro _ ⟨⟨g7, d7⟩, rfl⟩
      simp only [fin, Act.put, List.setIfInBounds_toArray, List.set_cons_zero, List.set_cons_succ]
      rintro _ ⟨b, _, rfl, hb1, hb2, u, hvs, hu⟩ _ -
      obtain rfl := Value.agg.inj hvs
      obtain ⟨N2, O4, hm⟩ := hu.foundM HO3.out ⟨⟨_, _⟩, rfl⟩
      have HO4 := Lib.hid (O4.perm (X' := RQ ++ (⟨q, 122, #[.int .i64 T.room, .slice aq i cq, .map (some mq)]⟩ :: (⟨b5, 29, #[.int .u8 (by8 y.h 0), .int .u8 (by8 y.h 1), .int .u8 (by8 y.h 2), .int .u8 (by8 y.h 3), .int .u8 (by8 y.h 4), .int .u8 (by8 y.h 5), .int .u8 (by8 y.h 6), .int .u8 (by8 y.h 7), .int .i64 y.n, .slice ab y.l.length cb]⟩ :: (⟨p, 122, #[.int .i64 T.room, .slice (some ⟨r, 0, none⟩) T.all.length kcap, .map (some m)]⟩ :: (R ++ (C ++ (N2 ++ (N ++ X)))))))) (perm_cnt fun x => by simp only [cnt_append, cnt_cons, cnt_nil] <;> omega))
      have HM := Lib.hid hm
      clear O4 hu hm y0 y1 y2 y3 y4 y5 y6 y7 y8 y9 ly lq c1 HO3 T3 HV3
      refine step_one (n := 3) (k := 8) (by kernel_rfl) (by rfl) (by rfl) ?_
      intro K' hK
      refine HO4.out.appendK (.tmp 34) (.tmp 37) 120 rfl elt_app (by rfl) HR0.out _ 1 1 (#[.int .u8 (by8 y.h 0), .int .u8 (by8 y.h 1), .int .u8 (by8 y.h 2), .int .u8 (by8 y.h 3), .int .u8 (by8 y.h 4), .int .u8 (by8 y.h 5), .int .u8 (by8 y.h 6), .int .u8 (by8 y.h 7), .int .i64 y.n, u] : Array Value).toList (by rfl) (by rfl) (by simp) (blk_news hb2) (acs_one ⟨y.h, y.n, y.l⟩ u HM.out.one) (by unfold maxLen; omega) (by omega) (i + 1) rfl (ecs (T.all.take (i + 1)) (us ++ [u])) (by rw [HTS.out, ecs_app _ _ _ _ HDQ.out.len, ecs_one1]; rfl) (fun ao' cap' B' w5 R5 O5 => hK _ _ ?_)
      clear hK K' hb2
      (have HBq := O5.blk (b := q) (t := 122) (cs := #[.int .i64 T.room, .slice aq i cq, .map (some mq)]) (by simp))
      have lq5 := HBq.lt
      have c15 := HBq.cell 1
      have f15 := HBq.frozen 1
      simp only [List.getElem?_toArray, List.getElem?_cons_succ, List.getElem?_cons_zero] at c15
      have HO5 := Lib.hid (O5.perm (X' := ⟨q, 122, #[.int .i64 T.room, .slice aq i cq, .map (some mq)]⟩ :: (B' ++ (⟨b5, 29, #[.int .u8 (by8 y.h 0), .int .u8 (by8 y.h 1), .int .u8 (by8 y.h 2), .int .u8 (by8 y.h 3), .int .u8 (by8 y.h 4), .int .u8 (by8 y.h 5), .int .u8 (by8 y.h 6), .int .u8 (by8 y.h 7), .int .i64 y.n, .slice ab y.l.length cb]⟩ :: (⟨p, 122, #[.int .i64 T.room, .slice (some ⟨r, 0, none⟩) T.all.length kcap, .map (some m)]⟩ :: (R ++ (C ++ (N2 ++ (N ++ X)))))))) (perm_cnt fun x => by simp only [cnt_append, cnt_cons, cnt_nil] <;> omega))
      have HR5 := Lib.hid R5
      clear O5 R5 HBq
      refine step_one (n := 2) (k := 9) (by kernel_rfl) (by rfl) (by rfl) ?_
      intro K hK
      go_simp
      refine hK _ _ ?_
      clear hK K
      refine step_one (n := 1) (k := 10) (by kernel_rfl) (by rfl) (by rfl) ?_
      intro K hK
      go_simp
      refine hK _ _ ?_
      clear hK K
      refine last_one (k := 11) (by kernel_rfl) (by kernel_rfl) (by rfl) ?_ ?_
      · rfl
      intro K hK
      go_simp
      refine hK _ _ ?_
      clear hK K
      try (refine ⟨rfl, ?_⟩; refine then_go (by assumption) ?_)
      refine wp_opq (fun W => Omw W w0 (⟨q, 122, #[.int .i64 T.room, .slice ao' (i + 1) cap', .map (some mq)]⟩ :: (B' ++ (⟨b5, 29, #[.int .u8 (by8 y.h 0), .int .u8 (by8 y.h 1), .int .u8 (by8 y.h 2), .int .u8 (by8 y.h 3), .int .u8 (by8 y.h 4), .int .u8 (by8 y.h 5), .int .u8 (by8 y.h 6), .int .u8 (by8 y.h 7), .int .i64 y.n, .slice ab y.l.length cb]⟩ :: (⟨p, 122, #[.int .i64 T.room, .slice (some ⟨r, 0, none⟩) T.all.length kcap, .map (some m)]⟩ :: (R ++ (C ++ (N2 ++ (N ++ X)))))))) [(m, .map es ck), (mq, .map es' ck')]) ((HO5.out.set 1 _).as (by simp)) ?_
      intro w6 O6
      have HO6 := Lib.hid O6
      (have hq := O6.blk (b := q) (t := 122) (cs := #[.int .i64 T.room, .slice ao' (i + 1) cap', .map (some mq)]) (by simp)); (have c2 : w6.cell? ⟨q, 2, none⟩ = some (.map (some mq)) := hq.cell 2); (have lq := hq.lt); clear hq
      (have hq := O6.blk (b := b5) (t := 29) (cs := #[.int .u8 (by8 y.h 0), .int .u8 (by8 y.h 1), .int .u8 (by8 y.h 2), .int .u8 (by8 y.h 3), .int .u8 (by8 y.h 4), .int .u8 (by8 y.h 5), .int .u8 (by8 y.h 6), .int .u8 (by8 y.h 7), .int .i64 y.n, .slice ab y.l.length cb]) (by simp)); (have y0 := hq.cell 0); (have y1 := hq.cell 1); (have y2 := hq.cell 2); (have y3 := hq.cell 3); (have y4 := hq.cell 4); (have y5 := hq.cell 5); (have y6 := hq.cell 6); (have y7 := hq.cell 7); (have y8 := hq.cell 8); (have y9 := hq.cell 9); (have ly := hq.lt); (simp only [List.getElem?_toArray, List.getElem?_cons_succ, List.getElem?_cons_zero] at y0 y1 y2 y3 y4 y5 y6 y7 y8 y9); clear hq
      clear O6 HO5 c15 f15 lq5
      go_wp2_with fail
      refine wp_region_rc 7 1 (by kernel_rfl) (by kernel_rfl) (by kernel_rfl) (by kernel_rfl) ?_
      simp only [List.take_succ_cons, List.take_zero]
      repeat (first
        | (refine B_skip ?_ ?_; (· rfl); (try simp only [Act.put, List.setIfInBounds_toArray, List.set_cons_zero, List.set_cons_succ]))
        | (refine B_move rfl ?_ ?_; (· rfl); (try simp only [Act.eval, Act.put, Array.getD_eq_getD_getElem?, List.getElem?_toArray, List.getElem?_cons_succ, List.getElem?_cons_zero, Option.getD_some, List.setIfInBounds_toArray, List.set_cons_zero, List.set_cons_succ]))
        | (refine B_plain ?_ ?_; (· rfl); intro K hK; go_big_quiet_op; with_reducible refine hK _ ?_; clear hK K)
        | (refine B_nilck rfl rfl ?_ ?_; (· rfl); (try simp only [Act.put, List.setIfInBounds_toArray, List.set_cons_zero, List.set_cons_succ])))
      refine B_nil ?_ rfl ?_ ?_
      · kernel_rfl
      · rfl
      rintro _ ⟨⟨g8, d8⟩, rfl⟩
      simp only [fin, Act.put, List.setIfInBounds_toArray, List.set_cons_zero, List.set_cons_succ]
      refine last_one (k := 7) (by kernel_rfl) (by kernel_rfl) (by rfl) ?_ ?_
      · rfl
      intro K' hK
      refine ((HO6.out.permK (List.Perm.swap _ _ _)).plus _ _).putK2 HDQ.out.map mapI (.tmp 44) (.tmp 46) (.tmp 47) (by rfl) (by rfl) y.h (by rfl) (.int .i64 i) (by rfl) (fun es2 ck2 w7 O7 D7 hk7 hs7 => hK _ _ ?_)
      have e7 : putF (idxV (T.all.take i)) y.h (.int .i64 ((T.all.take i).length : Nat)) = idxV (T.all.take i ++ [y]) := idxV_snoc HIX.out
      rw [HIL.out, ← HTS.out] at e7
      rw [e7] at D7
      have HO7 := Lib.hid O7
      have HD7 := Lib.hid D7
      clear hK K' hk7 hs7 O7 D7 e7 c2 lq y0 y1 y2 y3 y4 y5 y6 y7 y8 y9 ly HO6
      go_wp2
      refine ⟨⟨i + 1, .slice ao' (i + 1) cap', es2, ck2, B', us ++ [u], N2 ++ N, by simp, by omega, ⟨?_, ?_, ?_, HD7.out⟩, ?_⟩, by simp [intOf]; omega⟩
      · have := HR5.out
        have e : (T.all.take (i + 1)).length = i + 1 := by simp; omega
        simpa only [e] using this
      · have := HDQ.out.len
        rw [HTS.out]
        simp [this]
      · have := (HDQ.out.box.mono (L' := (N2 ++ N) ++ X) (by intro x hx; simp only [List.mem_append] at hx ⊢; rcases hx with h | h <;> simp [h])).snoc (HM.out.mono (L' := (N2 ++ N) ++ X) (by intro x hx; simp [hx]))
        rw [HTS.out, List.map_append]
        exact this
      · exact (Omw.drop1 (HO7.out.perm (X' := ⟨b5, 29, #[.int .u8 (by8 y.h 0), .int .u8 (by8 y.h 1), .int .u8 (by8 y.h 2), .int .u8 (by8 y.h 3), .int .u8 (by8 y.h 4), .int .u8 (by8 y.h 5), .int .u8 (by8 y.h 6), .int .u8 (by8 y.h 7), .int .i64 y.n, .slice ab y.l.length cb]⟩ :: (⟨p, 122, #[.int .i64 T.room, .slice (some ⟨r, 0, none⟩) T.all.length kcap, .map (some m)]⟩ :: (R ++ (⟨q, 122, #[.int .i64 T.room, .slice ao' (i + 1) cap', .map (some mq)]⟩ :: (B' ++ (C ++ ((N2 ++ N) ++ X))))))) (perm_cnt fun x => by simp only [cnt_append, cnt_cons, cnt_nil] <;> omega))).permK (List.Perm.swap _ _ _)
    · obtain rfl : i = T.all.length := by omega
      clear hDq hO
      go_wp2
      go_ret
      have hDq := HDQ.out
      rw [List.take_length] at hDq
      refine ⟨q, N, rfl, _, _, _, _, HOr.out.perm (X' := (⟨p, 122, #[.int .i64 T.room, .slice ak T.all.length kcap, .map (some m)]⟩ :: R) ++ ((⟨q, 122, #[.int .i64 T.room, tq, .map (some mq)]⟩ :: RQ) ++ (C ++ (N ++ X)))) (perm_cnt fun x => by simp only [cnt_append, cnt_cons, cnt_nil] <;> omega), ⟨_, m, es, ck, R, vs, rfl, rfl, HD.out.mono (by intro x hx; simp [hx])⟩, ⟨tq, mq, es', ck', RQ, us, rfl, rfl, hDq⟩⟩

end Go.Proofs.Ytghaiplhakeahaa
