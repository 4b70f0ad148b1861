/- guard: the law's few, and its do: a guard and the document's do the same. -/
import Derived.Test.YtghaiplhakeahaaGp
namespace Go.Proofs.Ytghaiplhakeahaa
set_option linter.unusedSimpArgs false
set_option linter.unusedVariables false
open Go.RowKit

theorem wp_alloc_op {P : Program} {o : Oper} {a : Act} {w : World} {K : Act → World → Prop} {Q : Exit → Act → World → Prop} (t : TypeId) (z : Value) (ho : o.op = .alloc t) (hz : ((P.info? t).bind (·.zero)) = some z)
    (h : K (a.put o.dst (.pointer (some ⟨w.heap.size, 0, none⟩))) (w.alloc (.cells z.cells t))) : o.wp P a w K Q := by
  unfold Oper.wp
  rw [run_alloc_op ho hz]
  exact h
section
variable {w w0 : World} {C X : List Blk} {p : Nat} {G : GS}
/-- A block that is only read. -/
theorem Gu.key (h : Gu w w0 C X p G) (cs : Array Value) (t : TypeId) (b : Nat) (hb : b = w.heap.size) : Gu (w.alloc (.cells cs t)) w0 C (⟨b, t, cs⟩ :: X) p G := by
  obtain ⟨bv, O, m⟩ := h
  exact ⟨bv, (O.key cs t b hb).perm (perm_cnt fun x => by simp only [cnt_append, cnt_cons, cnt_nil] <;> omega), m.mono fun x hx => by simp [hx]⟩
theorem Gu.unpark {x : Blk} (h : Gu w w0 (x :: C) X p G) : Gu w w0 C (x :: X) p G := by
  obtain ⟨bv, O, m⟩ := h
  exact ⟨bv, O.perm (perm_cnt fun x => by simp only [cnt_append, cnt_cons, cnt_nil] <;> omega), m.mono fun x hx => by simp [hx]⟩
theorem Gu.hasX (h : Gu w w0 C X p G) {b : Nat} {t : TypeId} {cs : Array Value} (hx : (⟨b, t, cs⟩ : Blk) ∈ X) : HasBlk w b t cs := by
  obtain ⟨Y, O, hX, -⟩ := h.ow; exact O.has (hX _ hx)
theorem Gu.bsl (h : Gu w w0 C X p G) {v : Value} {l : List UInt8} (m : Msg w0 X v l) : BSl w v l := by
  obtain ⟨Y, O, hX, -⟩ := h.ow; exact m.bsl O hX
theorem Gu.sl (h : Gu w w0 C X p G) {v : Value} {n : Nat} {l : List Value} (m : Sl w0 X v n l) : Sl w [] v n l := by
  obtain ⟨Y, O, hX, -⟩ := h.ow; exact m.here O hX
theorem Gu.store {cs : Array Value} {b : Nat} {t : TypeId} (h : Gu w w0 (⟨b, t, cs⟩ :: C) X p G) {P : Program} {o : Oper} {a : Act} {K : Act → World → Prop} {Q : Exit → Act → World → Prop} (ty : TypeId) (x y : Operand) (ho : o.op = .store ty x y)
    (hx : a.eval x = .pointer (some ⟨b, 0, none⟩)) (us : Array Value) (hy : a.eval y = .agg us) (hi : (P.info? ty).map (·.size) = some us.size) (hs : us.size = cs.size) (h1 : ∀ v ∈ us.toList, v.oneCell' = true)
    (k : ∀ w', Gu w' w0 (⟨b, t, us⟩ :: C) X p G → K (a.put o.dst undef) w') : o.wp P a w K Q := by
  obtain ⟨bv, O, m⟩ := h
  refine (O.perm (L' := ⟨b, t, cs⟩ :: (⟨p, 132, gcs G bv⟩ :: (C ++ X))) (perm_cnt fun x => by simp only [cnt_append, cnt_cons, cnt_nil] <;> omega)).storeAt ty x y ho 0 hx us hy hi (by omega) h1 fun w' O' => k w' ⟨bv, ?_, m⟩
  rw [writeAt_all _ _ (by simpa using hs)] at O'
  simp only [Array.toArray_toList] at O'
  exact O'.perm (perm_cnt fun x => by simp only [cnt_append, cnt_cons, cnt_nil] <;> omega)
end
theorem bsl_fst {w : World} {ao : Option Addr} {N cap : Nat} {l : List UInt8} (h : BSl w (.slice ao N cap) l) (n : Nat) (hn : n ≤ l.length) : BSl w (.slice ao n cap) (l.take n) := by
  obtain ⟨ao', cap', e, ⟨h1, h2⟩, h3⟩ := h
  cases e
  have hl : (l.take n).length = n := by simp [hn]
  refine ⟨ao, cap, by rw [hl], ⟨by rw [hl]; omega, fun h => by have := h2 h; rw [hl]; omega⟩, ?_⟩
  rw [hl]
  rcases h3 with h3 | ⟨b, o, h3, h4, h5⟩
  · left; omega
  · refine .inr ⟨b, o, h3, h4, fun i hi => ?_⟩
    rw [h5 i (by omega)]
    simp [List.getD_eq_getElem?_getD, List.getElem?_take, hi]
theorem few_to (ao : Option Addr) (n cap m : Nat) (hm : min n 200 = m) (hc : n ≤ cap) (w : World) :
    Calls Try.prog 54 #[.slice ao n cap] w fun e w' => e = .returned (.slice ao m cap) ∧ w' = w := by
  have hmi : min (n : Int) 200 = (m : Int) := by omega
  have hmc : m ≤ cap := by omega
  clear hm
  go_enter Try.func54, Try.ntmps54
  go_wp2
  go_ret
  exact ⟨rfl, rfl⟩
/-- tower.Make of a claim that isn't long, whatever the number. -/
theorem make_any (x : BitVec 64) (n : Int) (v : Value) (l : List UInt8) (hl : l.length ≤ 32768) (h : BitVec 64) (hh : (if isNum n = true then thintF x else 0) = h) (k : Int) (hk : (if isNum n = true then n else 0) = k) (y : List UInt8) (hy : (if isNum n = true then tboxF x l else []) = y) (mk : Int) (hm : (if isNum n = false then 2 else 0) = mk) (w : World) (hv : BSl w v l) :
    Calls Try.prog 16 #[.agg #[.int .u8 (by8 x 0), .int .u8 (by8 x 1), .int .u8 (by8 x 2), .int .u8 (by8 x 3), .int .u8 (by8 x 4), .int .u8 (by8 x 5), .int .u8 (by8 x 6), .int .u8 (by8 x 7)], .int .i64 n, v] w fun e w' => ∃ u, e = .returned (.tuple #[.agg #[.int .u8 (by8 h 0), .int .u8 (by8 h 1), .int .u8 (by8 h 2), .int .u8 (by8 h 3), .int .u8 (by8 h 4), .int .u8 (by8 h 5), .int .u8 (by8 h 6), .int .u8 (by8 h 7), .int .i64 k, u], .int .i64 mk]) ∧ Below w.heap.size w w' ∧ Ans w.heap.size y u w' := by
  by_cases hn : isNum n = true
  · rw [if_pos hn] at hh hk hy
    rw [if_neg (by rw [hn]; simp)] at hm
    subst hk hm
    exact make_to x n v l hn hl h hh y hy w hv
  · have hn' : isNum n = false := by simpa using hn
    rw [if_neg hn] at hh hk hy
    rw [if_pos hn'] at hm
    subst hh hk hm hy
    refine (make_range x n v hn' w).mono ?_
    rintro e w' ⟨rfl, hb⟩
    refine ⟨.slice none 0 0, ?_, hb, Ans.nil _ _⟩
    simp [by8_z]

theorem apc_one (h : BitVec 64) (n : Int) (v : Value) (hv : v.oneCell' = true) : ∀ u ∈ (#[.int .u8 (by8 h 0), .int .u8 (by8 h 1), .int .u8 (by8 h 2), .int .u8 (by8 h 3), .int .u8 (by8 h 4), .int .u8 (by8 h 5), .int .u8 (by8 h 6), .int .u8 (by8 h 7), .int .i64 n, v] : Array Value).toList, u.oneCell' = true := by
  intro u hu
  simp only [List.mem_cons, List.not_mem_nil, or_false] at hu
  rcases hu with rfl | rfl | rfl | rfl | rfl | rfl | rfl | rfl | rfl | rfl <;> first | rfl | exact hv
theorem rnoteR_has (R : RS) (n : Int) (l : List UInt8) (mk : Int) : (rnoteR R n l mk).has = R.has ∧ (rnoteR R n l mk).towers = R.towers := by
  unfold rnoteR; split <;> exact ⟨rfl, rfl⟩
theorem rsleepR_has (R : RS) (bd most f t : Int) : (rsleepR R bd most f t).has = R.has ∧ (rsleepR R bd most f t).towers = R.towers := by
  unfold rsleepR
  split
  · split <;> exact ⟨rfl, rfl⟩
  · exact ⟨rfl, rfl⟩

/-- The document's Ack, beside a guard. -/
def rackS (R : RS) (which n : Int) : RS := if rackE R which n = 0 then rackR R which.toNat n else R
theorem Gu.rack {w w0 : World} {C X : List Blk} {p : Nat} {G : GS} (h : Gu w w0 C X p G) (R : RS) (hv : Value) (which n : Int) (hl : R.has.length = R.towers) (ht : R.towers ≤ 16) (hs : Sl w0 X hv R.towers (ics R.has)) (E : Nat) (hE : rackE R which n = E) (R' : RS) (hR : rackS R which n = R') :
    Calls Try.prog 74 #[.agg #[.int .i64 R.towers, .int .i64 R.need, .int .i64 R.newest, .string ⟨R.claim.toArray⟩, hv, .bool R.sl, .int .i64 R.fr, .int .i64 R.to], .int .i64 which, .int .i64 n] w fun e w' => ∃ hv' X', e = .returned (.tuple #[.agg #[.int .i64 R'.towers, .int .i64 R'.need, .int .i64 R'.newest, .string ⟨R'.claim.toArray⟩, hv', .bool R'.sl, .int .i64 R'.fr, .int .i64 R'.to], .int .i64 E]) ∧ Sub X X' ∧ Gu w' w0 C X' p G ∧ Sl w0 X' hv' R'.towers (ics R'.has) := by
  unfold rackS at hR
  by_cases h0 : E = 0
  · subst h0
    rw [if_pos hE] at hR
    subst hR
    refine (rack_yes R hv which n w hl ht (h.sl hs) hE).mono ?_
    rintro e w' ⟨hv', rfl, hb, ho⟩
    obtain ⟨bv, O, m⟩ := h
    obtain ⟨B, O', Rw⟩ := ho.found O (Ext.of_below hb)
    exact ⟨hv', B ++ X, rfl, Sub.app B X, ⟨bv, O'.perm (perm_cnt fun x => by simp only [cnt_append, cnt_cons, cnt_nil] <;> omega), m.mono (Sub.app B X)⟩, (Rw.sl w0).mono fun x hx => by simp [hx]⟩
  · rw [if_neg (by omega)] at hR
    subst hR
    refine (rack_no R hv which n w hl (h.sl hs) E hE h0).mono ?_
    rintro e w' ⟨rfl, hb⟩
    exact ⟨hv, X, rfl, Sub.refl X, h.of_below hb, hs⟩
set_option maxRecDepth 100000 in
set_option maxHeartbeats 2000000 in
theorem do_note (kd wh n m b : Int) (hk : cutN kd 4 = 0) (ac : Option Addr) (cc : Nat) (l : List UInt8) (hcc : l.length ≤ cc) (w w0 : World) (C X : List Blk) (p : Nat) (G : GS) (R : RS) (hv : Value) (h : Gu w w0 C X p G) (hs : Sl w0 X hv R.towers (ics R.has)) (hr : GR G R) (hc : Msg w0 X (.slice ac l.length cc) l) :
    Calls Try.prog 48 #[ptr p, .agg #[.int .i64 R.towers, .int .i64 R.need, .int .i64 R.newest, .string ⟨R.claim.toArray⟩, hv, .bool R.sl, .int .i64 R.fr, .int .i64 R.to], .agg #[.int .i64 kd, .int .i64 wh, .int .i64 n, .int .i64 m, .int .i64 b, .slice ac l.length cc]] w fun e w' => ∃ G' R' hv' X', e = .returned (.tuple #[.agg #[.int .i64 R'.towers, .int .i64 R'.need, .int .i64 R'.newest, .string ⟨R'.claim.toArray⟩, hv', .bool R'.sl, .int .i64 R'.fr, .int .i64 R'.to], .bool true]) ∧ Sub X X' ∧ Gu w' w0 C X' p G' ∧ Sl w0 X' hv' R'.towers (ics R'.has) ∧ GR G' R' := by
  have ez := cut_eq kd 4 (by omega) (by omega)
  rw [hk] at ez
  have ez' : wrap64 ((IntKind.u64.wrap kd).tmod 4) = (0 : Int) := ez
  clear ez hk
  obtain ⟨nT, HnT⟩ : ∃ k, Hid (R.towers = k) := ⟨_, rfl⟩
  rw [HnT.out] at hs
  obtain ⟨ah, ch, rfl, -⟩ := hs.slice
  have HSl := Lib.hid hs
  have HR := Lib.hid hr
  obtain ⟨k, hk⟩ : ∃ k, min l.length 200 = k := ⟨_, rfl⟩
  have HK := Lib.hid hk
  have hkl : k ≤ l.length := by omega
  have HL : Hid ((l.take k).length ≤ 200) := by show _ ≤ _; simp; omega
  have HCC := Lib.hid hcc
  obtain ⟨hh, HH⟩ : ∃ y, Hid ((if isNum n = true then thintF nonceX else 0) = y) := ⟨_, rfl⟩
  obtain ⟨hn, HN⟩ : ∃ y, Hid ((if isNum n = true then n else 0) = y) := ⟨_, rfl⟩
  obtain ⟨hy, HY⟩ : ∃ y, Hid ((if isNum n = true then tboxF nonceX (l.take k) else []) = y) := ⟨_, rfl⟩
  obtain ⟨mk, HM⟩ : ∃ y : Int, Hid ((if isNum n = false then 2 else 0) = y) := ⟨_, rfl⟩
  obtain ⟨hE0, hr0⟩ := HR.out.note n (l.take k) HL.out mk HM.out.symm
  obtain ⟨E, HE⟩ : ∃ y, Hid (noteE G n (l.take k) = y) := ⟨_, rfl⟩
  obtain ⟨G', HG'⟩ : ∃ y, Hid (noteG G n (l.take k) = y) := ⟨_, rfl⟩
  obtain ⟨R', HR'⟩ : ∃ y, Hid (rnoteR R n (l.take k) mk = y) := ⟨_, rfl⟩
  have HE2 : Hid (rnoteE R n mk = (E : Int)) := by show _ = _; rw [hE0, HE.out]
  have HGR : Hid (GR G' R') := by rw [← HG'.out, ← HR'.out]; exact hr0
  have HhR : Hid (R'.has = R.has ∧ R'.towers = R.towers) := by rw [← HR'.out]; exact rnoteR_has _ _ _ _
  have HS := Lib.hid (((h.key #[.int .i64 R.towers, .int .i64 R.need, .int .i64 R.newest, .string ⟨R.claim.toArray⟩, .slice ah nT ch, .bool R.sl, .int .i64 R.fr, .int .i64 R.to] 61 w.heap.size rfl).key #[.int .i64 kd, .int .i64 wh, .int .i64 n, .int .i64 m, .int .i64 b, .slice ac l.length cc] 99 (w.heap.size + 1) (by simp)).park (cs := #[.int .i64 0, .int .i64 0, .int .i64 0, .string ByteArray.empty, .slice none 0 0, .bool false, .int .i64 0, .int .i64 0]) (b := w.heap.size + 2) (t := 61) (by simp))
  obtain ⟨X1, HX1⟩ : ∃ y, Hid (y = (⟨w.heap.size + 1, 99, #[.int .i64 kd, .int .i64 wh, .int .i64 n, .int .i64 m, .int .i64 b, .slice ac l.length cc]⟩ :: (⟨w.heap.size, 61, #[.int .i64 R.towers, .int .i64 R.need, .int .i64 R.newest, .string ⟨R.claim.toArray⟩, .slice ah nT ch, .bool R.sl, .int .i64 R.fr, .int .i64 R.to]⟩ :: X))) := ⟨_, rfl⟩
  have HX5 : Hid (⟨w.heap.size + 1, 99, #[.int .i64 kd, .int .i64 wh, .int .i64 n, .int .i64 m, .int .i64 b, .slice ac l.length cc]⟩ ∈ X1) := by rw [HX1.out]; exact List.mem_cons_self ..
  have HX4 : Hid (⟨w.heap.size, 61, #[.int .i64 R.towers, .int .i64 R.need, .int .i64 R.newest, .string ⟨R.claim.toArray⟩, .slice ah nT ch, .bool R.sl, .int .i64 R.fr, .int .i64 R.to]⟩ ∈ X1) := by rw [HX1.out]; exact List.mem_cons_of_mem _ (List.mem_cons_self ..)
  have HXX : Hid (Sub X X1) := by rw [HX1.out]; exact fun x hx => by simp [hx]
  have HC := Lib.hid (hc.mono HXX.out)
  have HS1 := Lib.hid (hs.mono HXX.out)
  rw [← HX1.out] at HS
  clear hs hr h hc hk hkl hcc hE0 hr0 HX1
  go_enter Try.func48, Try.ntmps48
  go_wp2_with fail
  refine wp_opq (fun W => Gu W w0 (⟨w.heap.size + 2, 61, #[.int .i64 0, .int .i64 0, .int .i64 0, .string ByteArray.empty, .slice none 0 0, .bool false, .int .i64 0, .int .i64 0]⟩ :: C) X1 p G) HS.out ?_
  intro W3 h3
  have H3 := Lib.hid h3
  clear h3 HS
  simp only [ez']
  refine wp_region_ov (fun L (x : Value × Nat) => [(L 0, 25, .agg #[.int .u8 (by8 nonceX 0), .int .u8 (by8 nonceX 1), .int .u8 (by8 nonceX 2), .int .u8 (by8 nonceX 3), .int .u8 (by8 nonceX 4), .int .u8 (by8 nonceX 5), .int .u8 (by8 nonceX 6), .int .u8 (by8 nonceX 7)]), (L 1, 26, .pointer (some ⟨w.heap.size + 1, 2, none⟩)), (L 2, 27, .int .i64 n), (L 3, 28, .pointer (some ⟨w.heap.size + 1, 5, none⟩)), (L 4, 29, .slice ac l.length cc), (L 5, 30, .slice ac k cc), (L 6, 31, .tuple #[.agg #[.int .u8 (by8 hh 0), .int .u8 (by8 hh 1), .int .u8 (by8 hh 2), .int .u8 (by8 hh 3), .int .u8 (by8 hh 4), .int .u8 (by8 hh 5), .int .u8 (by8 hh 6), .int .u8 (by8 hh 7), .int .i64 hn, x.1], .int .i64 mk]), (L 7, 24, .tuple #[.agg #[.int .u8 (by8 hh 0), .int .u8 (by8 hh 1), .int .u8 (by8 hh 2), .int .u8 (by8 hh 3), .int .u8 (by8 hh 4), .int .u8 (by8 hh 5), .int .u8 (by8 hh 6), .int .u8 (by8 hh 7), .int .i64 hn, x.1], .int .i64 mk]), (L 8, 32, .agg #[.int .u8 (by8 hh 0), .int .u8 (by8 hh 1), .int .u8 (by8 hh 2), .int .u8 (by8 hh 3), .int .u8 (by8 hh 4), .int .u8 (by8 hh 5), .int .u8 (by8 hh 6), .int .u8 (by8 hh 7), .int .i64 hn, x.1]), (L 9, 33, .int .i64 mk), (L 10, 8, ptr x.2), (L 12, 9, .int .i64 mk)])
    (fun L x W => Gu W w0 (bif L 10 then (⟨x.2, 29, bif L 11 then #[.int .u8 (by8 hh 0), .int .u8 (by8 hh 1), .int .u8 (by8 hh 2), .int .u8 (by8 hh 3), .int .u8 (by8 hh 4), .int .u8 (by8 hh 5), .int .u8 (by8 hh 6), .int .u8 (by8 hh 7), .int .i64 hn, x.1] else #[.int .u8 0, .int .u8 0, .int .u8 0, .int .u8 0, .int .u8 0, .int .u8 0, .int .u8 0, .int .u8 0, .int .i64 0, .slice none 0 0]⟩ :: (⟨w.heap.size + 2, 61, #[.int .i64 0, .int .i64 0, .int .i64 0, .string ByteArray.empty, .slice none 0 0, .bool false, .int .i64 0, .int .i64 0]⟩ :: C)) else (⟨w.heap.size + 2, 61, #[.int .i64 0, .int .i64 0, .int .i64 0, .string ByteArray.empty, .slice none 0 0, .bool false, .int .i64 0, .int .i64 0]⟩ :: C)) X1 p G ∧ (L 6 = true → x.1.oneCell' = true)) (undef, 0) (by kernel_rfl) (by kernel_rfl) (by rfl) ⟨H3.out.drew, fun h => by simp at h⟩ ?_ ⟨?_, ?_, ?_, ?_, ?_, ?_, ?_, ?_, ?_, ?_, ?_, ?_, ?_, trivial⟩
  rotate_left
  · intro L x W hW hC hL hd K hK; (try simp [depsB, Region.binds] at hd); (try simp only [Nat.reduceAdd] at hK hL)
    simp only [ovl, Array.getD_eq_getD_getElem?, List.getElem?_toArray, List.getElem?_cons_succ, List.getElem?_cons_zero, Option.getD_some, List.setIfInBounds_toArray, List.set_cons_zero, List.set_cons_succ]; (try simp only [hd, cond_true, cond_false])
    refine wp_call_in 39 (by rfl) (by kernel_rfl) #[] (by (simp only [List.map_toArray, List.map_cons, List.map_nil, Act.eval, Array.getD_eq_getD_getElem?, List.getElem?_toArray, List.getElem?_cons_succ, List.getElem?_cons_zero, Option.getD_some])) ((nonce_to W).mono ?_)
    rintro e W4 ⟨rfl, hb4⟩
    refine ⟨_, rfl, ?_⟩
    (have h := hK x W4 ⟨hW.1.of_below hb4, hW.2⟩); simp only [ovl, Array.getD_eq_getD_getElem?, List.getElem?_toArray, List.getElem?_cons_succ, List.getElem?_cons_zero, Option.getD_some, List.setIfInBounds_toArray, List.set_cons_zero, List.set_cons_succ] at h; (try simp (decide := true) only [upd, hd, cond_true, cond_false, Bool.true_or, Bool.false_or, decide_true, decide_false] at h); exact h
  iterate 4 (· (intro L x W hW hC hL hd K hK; (try simp [depsB, Region.binds] at hd); (try simp only [Nat.reduceAdd] at hK hL); simp only [ovl, Array.getD_eq_getD_getElem?, List.getElem?_toArray, List.getElem?_cons_succ, List.getElem?_cons_zero, Option.getD_some, List.setIfInBounds_toArray, List.set_cons_zero, List.set_cons_succ]; (try simp only [hd, cond_true, cond_false]); (have hW0 := hW); (replace hW := hW.1); (have hb5 : HasBlk W (w.heap.size + 1) 99 #[.int .i64 kd, .int .i64 wh, .int .i64 n, .int .i64 m, .int .i64 b, .slice ac l.length cc] := hW.hasX HX5.out); (have k1 := hb5.cell 1); (have k2 := hb5.cell 2); (have k3 := hb5.cell 3); (have k4 := hb5.cell 4); (have k5 := hb5.cell 5); (have l5 := hb5.lt); (have hb4 : HasBlk W w.heap.size 61 #[.int .i64 R.towers, .int .i64 R.need, .int .i64 R.newest, .string ⟨R.claim.toArray⟩, .slice ah nT ch, .bool R.sl, .int .i64 R.fr, .int .i64 R.to] := hW.hasX HX4.out); (have d0 := hb4.cell 0); (have d1 := hb4.cell 1); (have d2 := hb4.cell 2); (have d3 := hb4.cell 3); (have d4 := hb4.cell 4); (have d5 := hb4.cell 5); (have d6 := hb4.cell 6); (have d7 := hb4.cell 7); (have l4 := hb4.lt); clear hb5 hb4; clear hW; go_simp; (have h := hK x W hW0); simp only [ovl, Array.getD_eq_getD_getElem?, List.getElem?_toArray, List.getElem?_cons_succ, List.getElem?_cons_zero, Option.getD_some, List.setIfInBounds_toArray, List.set_cons_zero, List.set_cons_succ] at h; (try simp (decide := true) only [upd, hd, cond_true, cond_false, Bool.true_or, Bool.false_or, decide_true, decide_false] at h); exact h))
  · intro L x W hW hC hL hd K hK; (try simp [depsB, Region.binds] at hd); (try simp only [Nat.reduceAdd] at hK hL)
    simp only [ovl, Array.getD_eq_getD_getElem?, List.getElem?_toArray, List.getElem?_cons_succ, List.getElem?_cons_zero, Option.getD_some, List.setIfInBounds_toArray, List.set_cons_zero, List.set_cons_succ]; (try simp only [hd, cond_true, cond_false])
    refine wp_call_in 54 (by rfl) (by kernel_rfl) #[.slice ac l.length cc] (by (simp only [List.map_toArray, List.map_cons, List.map_nil, Act.eval, Array.getD_eq_getD_getElem?, List.getElem?_toArray, List.getElem?_cons_succ, List.getElem?_cons_zero, Option.getD_some])) ((few_to ac l.length cc k HK.out HCC.out W).mono ?_)
    rintro e W4 ⟨rfl, rfl⟩
    refine ⟨_, rfl, ?_⟩
    (have h := hK x _ hW); simp only [ovl, Array.getD_eq_getD_getElem?, List.getElem?_toArray, List.getElem?_cons_succ, List.getElem?_cons_zero, Option.getD_some, List.setIfInBounds_toArray, List.set_cons_zero, List.set_cons_succ] at h; (try simp (decide := true) only [upd, hd, cond_true, cond_false, Bool.true_or, Bool.false_or, decide_true, decide_false] at h); exact h
  · intro L x W hW hC hL hd K hK; (try simp [depsB, Region.binds] at hd); (try simp only [Nat.reduceAdd] at hK hL)
    (have h7 : L 7 = false := by cases hl : L 7 with | false => rfl | true => have hx := hC 7 _ rfl hl; simp [depsB, Region.binds, hL, hd] at hx); (replace hd := And.intro hd h7); (have h8 : L 8 = false := by cases hl : L 8 with | false => rfl | true => have hx := hC 8 _ rfl hl; simp [depsB, Region.binds, hL, hd] at hx); (replace hd := And.intro hd h8); (have h11 : L 11 = false := by cases hl : L 11 with | false => rfl | true => have hx := hC 11 _ rfl hl; simp [depsB, Region.binds, hL, hd] at hx); (replace hd := And.intro hd h11)
    simp only [ovl, Array.getD_eq_getD_getElem?, List.getElem?_toArray, List.getElem?_cons_succ, List.getElem?_cons_zero, Option.getD_some, List.setIfInBounds_toArray, List.set_cons_zero, List.set_cons_succ]; (try simp only [hd, cond_true, cond_false])
    obtain ⟨hW, hWo⟩ := hW
    simp only [hd, cond_false] at hW
    refine wp_call_in 16 (by rfl) (by kernel_rfl) #[.agg #[.int .u8 (by8 nonceX 0), .int .u8 (by8 nonceX 1), .int .u8 (by8 nonceX 2), .int .u8 (by8 nonceX 3), .int .u8 (by8 nonceX 4), .int .u8 (by8 nonceX 5), .int .u8 (by8 nonceX 6), .int .u8 (by8 nonceX 7)], .int .i64 n, .slice ac k cc] (by (simp only [List.map_toArray, List.map_cons, List.map_nil, Act.eval, Array.getD_eq_getD_getElem?, List.getElem?_toArray, List.getElem?_cons_succ, List.getElem?_cons_zero, Option.getD_some])) ((make_any nonceX n _ (l.take k) (by have := HL.out; omega) hh HH.out hn HN.out hy HY.out mk HM.out W (bsl_fst (hW.bsl HC.out) k (by have := HK.out; omega))).mono ?_)
    rintro e W4 ⟨u, rfl, hb4, hu⟩
    have hu1 : u.oneCell' = true := by
      obtain ⟨_, _, rfl, -⟩ := hu.bsl.open_
      rfl
    refine ⟨_, rfl, ?_⟩
    (have h := hK (u, x.2) W4 ⟨by simpa [upd, hd] using hW.of_below hb4, fun _ => hu1⟩); simp only [ovl, Array.getD_eq_getD_getElem?, List.getElem?_toArray, List.getElem?_cons_succ, List.getElem?_cons_zero, Option.getD_some, List.setIfInBounds_toArray, List.set_cons_zero, List.set_cons_succ] at h; (try simp (decide := true) only [upd, hd, cond_true, cond_false, Bool.true_or, Bool.false_or, decide_true, decide_false] at h); exact h
  iterate 3 (· (intro L x W hW hC hL hd K hK; (try simp [depsB, Region.binds] at hd); (try simp only [Nat.reduceAdd] at hK hL); simp only [ovl, Array.getD_eq_getD_getElem?, List.getElem?_toArray, List.getElem?_cons_succ, List.getElem?_cons_zero, Option.getD_some, List.setIfInBounds_toArray, List.set_cons_zero, List.set_cons_succ]; (try simp only [hd, cond_true, cond_false]); (have hW0 := hW); clear hW; go_simp; (have h := hK x W hW0); simp only [ovl, Array.getD_eq_getD_getElem?, List.getElem?_toArray, List.getElem?_cons_succ, List.getElem?_cons_zero, Option.getD_some, List.setIfInBounds_toArray, List.set_cons_zero, List.set_cons_succ] at h; (try simp (decide := true) only [upd, hd, cond_true, cond_false, Bool.true_or, Bool.false_or, decide_true, decide_false] at h); exact h))
  · intro L x W hW hC hL hd K hK; (try simp [depsB, Region.binds] at hd); (try simp only [Nat.reduceAdd] at hK hL)
    (have h11 : L 11 = false := by cases hl : L 11 with | false => rfl | true => have hx := hC 11 _ rfl hl; simp [depsB, Region.binds, hL, hd] at hx); (replace hd := And.intro hd h11)
    simp only [ovl, Array.getD_eq_getD_getElem?, List.getElem?_toArray, List.getElem?_cons_succ, List.getElem?_cons_zero, Option.getD_some, List.setIfInBounds_toArray, List.set_cons_zero, List.set_cons_succ]; (try simp only [hd, cond_true, cond_false])
    obtain ⟨hW, hWo⟩ := hW
    simp only [hL, cond_false] at hW
    refine wp_alloc_op 29 (.agg #[.int .u8 0, .int .u8 0, .int .u8 0, .int .u8 0, .int .u8 0, .int .u8 0, .int .u8 0, .int .u8 0, .int .i64 0, .slice none 0 0]) (by rfl) (by kernel_rfl) ?_
    (have h := hK (x.1, W.heap.size) _ ⟨by simpa [upd, hd, Value.cells] using hW.park rfl, hWo⟩); simp only [ovl, Array.getD_eq_getD_getElem?, List.getElem?_toArray, List.getElem?_cons_succ, List.getElem?_cons_zero, Option.getD_some, List.setIfInBounds_toArray, List.set_cons_zero, List.set_cons_succ] at h; (try simp (decide := true) only [upd, hd, cond_true, cond_false, Bool.true_or, Bool.false_or, decide_true, decide_false] at h); exact h
  · intro L x W hW hC hL hd K hK; (try simp [depsB, Region.binds] at hd); (try simp only [Nat.reduceAdd] at hK hL)
    simp only [ovl, Array.getD_eq_getD_getElem?, List.getElem?_toArray, List.getElem?_cons_succ, List.getElem?_cons_zero, Option.getD_some, List.setIfInBounds_toArray, List.set_cons_zero, List.set_cons_succ]; (try simp only [hd, cond_true, cond_false])
    obtain ⟨hW, hWo⟩ := hW
    simp only [hL, hd, cond_false, cond_true] at hW
    refine hW.store 29 (.tmp 8) (.tmp 32) (by rfl) (by rfl) #[.int .u8 (by8 hh 0), .int .u8 (by8 hh 1), .int .u8 (by8 hh 2), .int .u8 (by8 hh 3), .int .u8 (by8 hh 4), .int .u8 (by8 hh 5), .int .u8 (by8 hh 6), .int .u8 (by8 hh 7), .int .i64 hn, x.1] (by rfl) (by kernel_rfl) (by rfl) (apc_one _ _ _ (hWo hd.2.2.1)) (fun W' h' => ?_)
    (have h := hK x W' ⟨by simpa [upd, hd] using h', hWo⟩); simp only [ovl, Array.getD_eq_getD_getElem?, List.getElem?_toArray, List.getElem?_cons_succ, List.getElem?_cons_zero, Option.getD_some, List.setIfInBounds_toArray, List.set_cons_zero, List.set_cons_succ] at h; (try simp (decide := true) only [upd, hd, cond_true, cond_false, Bool.true_or, Bool.false_or, decide_true, decide_false] at h); exact h
  iterate 1 (· (intro L x W hW hC hL hd K hK; (try simp [depsB, Region.binds] at hd); (try simp only [Nat.reduceAdd] at hK hL); simp only [ovl, Array.getD_eq_getD_getElem?, List.getElem?_toArray, List.getElem?_cons_succ, List.getElem?_cons_zero, Option.getD_some, List.setIfInBounds_toArray, List.set_cons_zero, List.set_cons_succ]; (try simp only [hd, cond_true, cond_false]); (have hW0 := hW); clear hW; go_simp; (have h := hK x W hW0); simp only [ovl, Array.getD_eq_getD_getElem?, List.getElem?_toArray, List.getElem?_cons_succ, List.getElem?_cons_zero, Option.getD_some, List.setIfInBounds_toArray, List.set_cons_zero, List.set_cons_succ] at h; (try simp (decide := true) only [upd, hd, cond_true, cond_false, Bool.true_or, Bool.false_or, decide_true, decide_false] at h); exact h))
  intro x W9 hW9
  simp only [ovl, cond_true, Array.getD_eq_getD_getElem?, List.getElem?_toArray, List.getElem?_cons_succ, List.getElem?_cons_zero, Option.getD_some, List.setIfInBounds_toArray, List.set_cons_zero, List.set_cons_succ]
  simp only [cond_true] at hW9
  have H9 := Lib.hid (hW9.1.dropC (B := [_]))
  clear hW9 H3
  go_wp2_with fail
  refine wp_opq (fun W => Gu W w0 (⟨w.heap.size + 2, 61, #[.int .i64 0, .int .i64 0, .int .i64 0, .string ByteArray.empty, .slice none 0 0, .bool false, .int .i64 0, .int .i64 0]⟩ :: C) X1 p G) H9.out ?_
  intro W4 h4
  have H4 := Lib.hid h4
  clear h4 H9
  refine wp_region_ov (fun L (x : Nat) => [(L 0, 35, .agg #[.int .i64 R.towers, .int .i64 R.need, .int .i64 R.newest, .string ⟨R.claim.toArray⟩, .slice ah nT ch, .bool R.sl, .int .i64 R.fr, .int .i64 R.to]), (L 1, 36, .pointer (some ⟨w.heap.size + 1, 2, none⟩)), (L 2, 37, .int .i64 n), (L 3, 38, .pointer (some ⟨w.heap.size + 1, 5, none⟩)), (L 4, 39, .slice ac l.length cc), (L 5, 40, .slice ac k cc), (L 6, 41, .int .i64 mk), (L 7, 42, .tuple #[.agg #[.int .i64 R'.towers, .int .i64 R'.need, .int .i64 R'.newest, .string ⟨R'.claim.toArray⟩, .slice ah nT ch, .bool R'.sl, .int .i64 R'.fr, .int .i64 R'.to], .int .i64 E]), (L 8, 34, .tuple #[.agg #[.int .i64 R'.towers, .int .i64 R'.need, .int .i64 R'.newest, .string ⟨R'.claim.toArray⟩, .slice ah nT ch, .bool R'.sl, .int .i64 R'.fr, .int .i64 R'.to], .int .i64 E]), (L 9, 43, .agg #[.int .i64 R'.towers, .int .i64 R'.need, .int .i64 R'.newest, .string ⟨R'.claim.toArray⟩, .slice ah nT ch, .bool R'.sl, .int .i64 R'.fr, .int .i64 R'.to]), (L 10, 44, .int .i64 E), (L 11, 10, ptr x), (L 13, 11, .int .i64 E)])
    (fun L x W => Gu W w0 (bif L 11 then (⟨x, 61, bif L 12 then #[.int .i64 R'.towers, .int .i64 R'.need, .int .i64 R'.newest, .string ⟨R'.claim.toArray⟩, .slice ah nT ch, .bool R'.sl, .int .i64 R'.fr, .int .i64 R'.to] else #[.int .i64 0, .int .i64 0, .int .i64 0, .string ByteArray.empty, .slice none 0 0, .bool false, .int .i64 0, .int .i64 0]⟩ :: (⟨w.heap.size + 2, 61, #[.int .i64 0, .int .i64 0, .int .i64 0, .string ByteArray.empty, .slice none 0 0, .bool false, .int .i64 0, .int .i64 0]⟩ :: C)) else (⟨w.heap.size + 2, 61, #[.int .i64 0, .int .i64 0, .int .i64 0, .string ByteArray.empty, .slice none 0 0, .bool false, .int .i64 0, .int .i64 0]⟩ :: C)) X1 p G) 0 (by kernel_rfl) (by kernel_rfl) (by rfl) H4.out.drew ?_ ⟨?_, ?_, ?_, ?_, ?_, ?_, ?_, ?_, ?_, ?_, ?_, ?_, ?_, ?_, trivial⟩
  rotate_left
  iterate 5 (· (intro L x W hW hC hL hd K hK; (try simp [depsB, Region.binds] at hd); (try simp only [Nat.reduceAdd] at hK hL); simp only [ovl, Array.getD_eq_getD_getElem?, List.getElem?_toArray, List.getElem?_cons_succ, List.getElem?_cons_zero, Option.getD_some, List.setIfInBounds_toArray, List.set_cons_zero, List.set_cons_succ]; (try simp only [hd, cond_true, cond_false]); (have hW0 := hW); skip; (have hb5 : HasBlk W (w.heap.size + 1) 99 #[.int .i64 kd, .int .i64 wh, .int .i64 n, .int .i64 m, .int .i64 b, .slice ac l.length cc] := hW.hasX HX5.out); (have k1 := hb5.cell 1); (have k2 := hb5.cell 2); (have k3 := hb5.cell 3); (have k4 := hb5.cell 4); (have k5 := hb5.cell 5); (have l5 := hb5.lt); (have hb4 : HasBlk W w.heap.size 61 #[.int .i64 R.towers, .int .i64 R.need, .int .i64 R.newest, .string ⟨R.claim.toArray⟩, .slice ah nT ch, .bool R.sl, .int .i64 R.fr, .int .i64 R.to] := hW.hasX HX4.out); (have d0 := hb4.cell 0); (have d1 := hb4.cell 1); (have d2 := hb4.cell 2); (have d3 := hb4.cell 3); (have d4 := hb4.cell 4); (have d5 := hb4.cell 5); (have d6 := hb4.cell 6); (have d7 := hb4.cell 7); (have l4 := hb4.lt); clear hb5 hb4; clear hW; go_simp; (have h := hK x W hW0); simp only [ovl, Array.getD_eq_getD_getElem?, List.getElem?_toArray, List.getElem?_cons_succ, List.getElem?_cons_zero, Option.getD_some, List.setIfInBounds_toArray, List.set_cons_zero, List.set_cons_succ] at h; (try simp (decide := true) only [upd, hd, cond_true, cond_false, Bool.true_or, Bool.false_or, decide_true, decide_false] at h); exact h))
  · intro L x W hW hC hL hd K hK; (try simp [depsB, Region.binds] at hd); (try simp only [Nat.reduceAdd] at hK hL)
    simp only [ovl, Array.getD_eq_getD_getElem?, List.getElem?_toArray, List.getElem?_cons_succ, List.getElem?_cons_zero, Option.getD_some, List.setIfInBounds_toArray, List.set_cons_zero, List.set_cons_succ]; (try simp only [hd, cond_true, cond_false])
    refine wp_call_in 54 (by rfl) (by kernel_rfl) #[.slice ac l.length cc] (by (simp only [List.map_toArray, List.map_cons, List.map_nil, Act.eval, Array.getD_eq_getD_getElem?, List.getElem?_toArray, List.getElem?_cons_succ, List.getElem?_cons_zero, Option.getD_some])) ((few_to ac l.length cc k HK.out HCC.out W).mono ?_)
    rintro e W4 ⟨rfl, rfl⟩
    refine ⟨_, rfl, ?_⟩
    (have h := hK x _ hW); simp only [ovl, Array.getD_eq_getD_getElem?, List.getElem?_toArray, List.getElem?_cons_succ, List.getElem?_cons_zero, Option.getD_some, List.setIfInBounds_toArray, List.set_cons_zero, List.set_cons_succ] at h; (try simp (decide := true) only [upd, hd, cond_true, cond_false, Bool.true_or, Bool.false_or, decide_true, decide_false] at h); exact h
  iterate 1 (· (intro L x W hW hC hL hd K hK; (try simp [depsB, Region.binds] at hd); (try simp only [Nat.reduceAdd] at hK hL); simp only [ovl, Array.getD_eq_getD_getElem?, List.getElem?_toArray, List.getElem?_cons_succ, List.getElem?_cons_zero, Option.getD_some, List.setIfInBounds_toArray, List.set_cons_zero, List.set_cons_succ]; (try simp only [hd, cond_true, cond_false]); (have hW0 := hW); clear hW; go_simp; (have h := hK x W hW0); simp only [ovl, Array.getD_eq_getD_getElem?, List.getElem?_toArray, List.getElem?_cons_succ, List.getElem?_cons_zero, Option.getD_some, List.setIfInBounds_toArray, List.set_cons_zero, List.set_cons_succ] at h; (try simp (decide := true) only [upd, hd, cond_true, cond_false, Bool.true_or, Bool.false_or, decide_true, decide_false] at h); exact h))

  · intro L x W hW hC hL hd K hK; (try simp [depsB, Region.binds] at hd); (try simp only [Nat.reduceAdd] at hK hL)
    simp only [ovl, Array.getD_eq_getD_getElem?, List.getElem?_toArray, List.getElem?_cons_succ, List.getElem?_cons_zero, Option.getD_some, List.setIfInBounds_toArray, List.set_cons_zero, List.set_cons_succ]; (try simp only [hd, cond_true, cond_false])
    refine wp_call_in 73 (by rfl) (by kernel_rfl) #[.agg #[.int .i64 R.towers, .int .i64 R.need, .int .i64 R.newest, .string ⟨R.claim.toArray⟩, .slice ah nT ch, .bool R.sl, .int .i64 R.fr, .int .i64 R.to], .int .i64 n, .slice ac k cc, .int .i64 mk] (by (simp only [List.map_toArray, List.map_cons, List.map_nil, Act.eval, Array.getD_eq_getD_getElem?, List.getElem?_toArray, List.getElem?_cons_succ, List.getElem?_cons_zero, Option.getD_some])) ((rnote_to R _ n _ (l.take k) mk W ⟨_, _, _, rfl⟩ (bsl_fst (hW.bsl HC.out) k (by have := HK.out; omega)) E HE2.out R' HR'.out).mono ?_)
    rintro e W4 ⟨rfl, hb4⟩
    refine ⟨_, rfl, ?_⟩
    (have h := hK x W4 (hW.of_below hb4)); simp only [ovl, Array.getD_eq_getD_getElem?, List.getElem?_toArray, List.getElem?_cons_succ, List.getElem?_cons_zero, Option.getD_some, List.setIfInBounds_toArray, List.set_cons_zero, List.set_cons_succ] at h; (try simp (decide := true) only [upd, hd, cond_true, cond_false, Bool.true_or, Bool.false_or, decide_true, decide_false] at h); exact h
  iterate 3 (· (intro L x W hW hC hL hd K hK; (try simp [depsB, Region.binds] at hd); (try simp only [Nat.reduceAdd] at hK hL); simp only [ovl, Array.getD_eq_getD_getElem?, List.getElem?_toArray, List.getElem?_cons_succ, List.getElem?_cons_zero, Option.getD_some, List.setIfInBounds_toArray, List.set_cons_zero, List.set_cons_succ]; (try simp only [hd, cond_true, cond_false]); (have hW0 := hW); clear hW; go_simp; (have h := hK x W hW0); simp only [ovl, Array.getD_eq_getD_getElem?, List.getElem?_toArray, List.getElem?_cons_succ, List.getElem?_cons_zero, Option.getD_some, List.setIfInBounds_toArray, List.set_cons_zero, List.set_cons_succ] at h; (try simp (decide := true) only [upd, hd, cond_true, cond_false, Bool.true_or, Bool.false_or, decide_true, decide_false] at h); exact h))
  · intro L x W hW hC hL hd K hK; (try simp [depsB, Region.binds] at hd); (try simp only [Nat.reduceAdd] at hK hL)
    (have h12 : L 12 = false := by cases hl : L 12 with | false => rfl | true => have hx := hC 12 _ rfl hl; simp [depsB, Region.binds, hL, hd] at hx); (replace hd := And.intro hd h12)
    simp only [hL, cond_false] at hW
    simp only [ovl, Array.getD_eq_getD_getElem?, List.getElem?_toArray, List.getElem?_cons_succ, List.getElem?_cons_zero, Option.getD_some, List.setIfInBounds_toArray, List.set_cons_zero, List.set_cons_succ]; (try simp only [hd, cond_true, cond_false])
    refine wp_alloc_op 61 (.agg #[.int .i64 0, .int .i64 0, .int .i64 0, .string ByteArray.empty, .slice none 0 0, .bool false, .int .i64 0, .int .i64 0]) (by rfl) (by kernel_rfl) ?_
    (have h := hK W.heap.size _ (by simpa [upd, hd, Value.cells] using hW.park rfl)); simp only [ovl, Array.getD_eq_getD_getElem?, List.getElem?_toArray, List.getElem?_cons_succ, List.getElem?_cons_zero, Option.getD_some, List.setIfInBounds_toArray, List.set_cons_zero, List.set_cons_succ] at h; (try simp (decide := true) only [upd, hd, cond_true, cond_false, Bool.true_or, Bool.false_or, decide_true, decide_false] at h); exact h
  · intro L x W hW hC hL hd K hK; (try simp [depsB, Region.binds] at hd); (try simp only [Nat.reduceAdd] at hK hL)
    simp only [hL, hd, cond_false, cond_true] at hW
    simp only [ovl, Array.getD_eq_getD_getElem?, List.getElem?_toArray, List.getElem?_cons_succ, List.getElem?_cons_zero, Option.getD_some, List.setIfInBounds_toArray, List.set_cons_zero, List.set_cons_succ]; (try simp only [hd, cond_true, cond_false])
    refine hW.store 61 (.tmp 10) (.tmp 43) (by rfl) (by rfl) #[.int .i64 R'.towers, .int .i64 R'.need, .int .i64 R'.newest, .string ⟨R'.claim.toArray⟩, .slice ah nT ch, .bool R'.sl, .int .i64 R'.fr, .int .i64 R'.to] (by rfl) (by kernel_rfl) (by rfl) (by simp [Value.oneCell']) (fun W' h' => ?_)
    (have h := hK x W' (by simpa [upd, hd] using h')); simp only [ovl, Array.getD_eq_getD_getElem?, List.getElem?_toArray, List.getElem?_cons_succ, List.getElem?_cons_zero, Option.getD_some, List.setIfInBounds_toArray, List.set_cons_zero, List.set_cons_succ] at h; (try simp (decide := true) only [upd, hd, cond_true, cond_false, Bool.true_or, Bool.false_or, decide_true, decide_false] at h); exact h
  iterate 1 (· (intro L x W hW hC hL hd K hK; (try simp [depsB, Region.binds] at hd); (try simp only [Nat.reduceAdd] at hK hL); simp only [ovl, Array.getD_eq_getD_getElem?, List.getElem?_toArray, List.getElem?_cons_succ, List.getElem?_cons_zero, Option.getD_some, List.setIfInBounds_toArray, List.set_cons_zero, List.set_cons_succ]; (try simp only [hd, cond_true, cond_false]); (have hW0 := hW); clear hW; go_simp; (have h := hK x W hW0); simp only [ovl, Array.getD_eq_getD_getElem?, List.getElem?_toArray, List.getElem?_cons_succ, List.getElem?_cons_zero, Option.getD_some, List.setIfInBounds_toArray, List.set_cons_zero, List.set_cons_succ] at h; (try simp (decide := true) only [upd, hd, cond_true, cond_false, Bool.true_or, Bool.false_or, decide_true, decide_false] at h); exact h))
  intro y W9 hW9
  simp only [ovl, cond_true, Array.getD_eq_getD_getElem?, List.getElem?_toArray, List.getElem?_cons_succ, List.getElem?_cons_zero, Option.getD_some, List.setIfInBounds_toArray, List.set_cons_zero, List.set_cons_succ]
  simp only [cond_true] at hW9
  have H9 := Lib.hid hW9.unpark
  clear hW9 H4
  go_wp2_with fail
  refine wp_opq (fun W => Gu W w0 (⟨w.heap.size + 2, 61, #[.int .i64 0, .int .i64 0, .int .i64 0, .string ByteArray.empty, .slice none 0 0, .bool false, .int .i64 0, .int .i64 0]⟩ :: C) (⟨y, 61, #[.int .i64 R'.towers, .int .i64 R'.need, .int .i64 R'.newest, .string ⟨R'.claim.toArray⟩, .slice ah nT ch, .bool R'.sl, .int .i64 R'.fr, .int .i64 R'.to]⟩ :: X1) p G) H9.out ?_
  intro W5 h5
  have H5 := Lib.hid h5
  clear h5 H9
  refine wp_region_ov (fun L (_ : Unit) => [(L 0, 45, .agg #[.int .i64 R'.towers, .int .i64 R'.need, .int .i64 R'.newest, .string ⟨R'.claim.toArray⟩, .slice ah nT ch, .bool R'.sl, .int .i64 R'.fr, .int .i64 R'.to]), (L 1, 46, ptr p), (L 2, 47, .pointer (some ⟨w.heap.size + 1, 2, none⟩)), (L 3, 48, .int .i64 n), (L 4, 49, .pointer (some ⟨w.heap.size + 1, 5, none⟩)), (L 5, 50, .slice ac l.length cc), (L 6, 51, .slice ac k cc), (L 7, 52, .int .i64 E), (L 8, 53, .int .i64 E), (L 9, 54, .bool true), (L 11, 7, .bool true)])
    (fun L _ W => ∃ X4, Sub (⟨y, 61, #[.int .i64 R'.towers, .int .i64 R'.need, .int .i64 R'.newest, .string ⟨R'.claim.toArray⟩, .slice ah nT ch, .bool R'.sl, .int .i64 R'.fr, .int .i64 R'.to]⟩ :: X1) X4 ∧ Gu W w0 (⟨w.heap.size + 2, 61, bif L 10 then #[.int .i64 R'.towers, .int .i64 R'.need, .int .i64 R'.newest, .string ⟨R'.claim.toArray⟩, .slice ah nT ch, .bool R'.sl, .int .i64 R'.fr, .int .i64 R'.to] else #[.int .i64 0, .int .i64 0, .int .i64 0, .string ByteArray.empty, .slice none 0 0, .bool false, .int .i64 0, .int .i64 0]⟩ :: C) X4 p (bif L 7 then G' else G)) () (by kernel_rfl) (by kernel_rfl) (by rfl) ⟨_, Sub.refl _, H5.out.drew⟩ ?_ ⟨?_, ?_, ?_, ?_, ?_, ?_, ?_, ?_, ?_, ?_, ?_, ?_, trivial⟩
  rotate_left
  iterate 6 (· (intro L x W hW hC hL hd K hK; (try simp [depsB, Region.binds] at hd); (try simp only [Nat.reduceAdd] at hK hL); simp only [ovl, Array.getD_eq_getD_getElem?, List.getElem?_toArray, List.getElem?_cons_succ, List.getElem?_cons_zero, Option.getD_some, List.setIfInBounds_toArray, List.set_cons_zero, List.set_cons_succ]; (try simp only [hd, cond_true, cond_false]); (have hW0 := hW); (obtain ⟨X4, hs4, h4⟩ := hW); (have hb5 : HasBlk W (w.heap.size + 1) 99 #[.int .i64 kd, .int .i64 wh, .int .i64 n, .int .i64 m, .int .i64 b, .slice ac l.length cc] := h4.hasX (hs4 _ (List.mem_cons_of_mem _ HX5.out))); (have k2 := hb5.cell 2); (have k5 := hb5.cell 5); (have l5 := hb5.lt); (have hb4 : HasBlk W y 61 #[.int .i64 R'.towers, .int .i64 R'.need, .int .i64 R'.newest, .string ⟨R'.claim.toArray⟩, .slice ah nT ch, .bool R'.sl, .int .i64 R'.fr, .int .i64 R'.to] := h4.hasX (hs4 _ (List.mem_cons_self ..))); (have d0 := hb4.cell 0); (have d1 := hb4.cell 1); (have d2 := hb4.cell 2); (have d3 := hb4.cell 3); (have d4 := hb4.cell 4); (have d5 := hb4.cell 5); (have d6 := hb4.cell 6); (have d7 := hb4.cell 7); (have l4 := hb4.lt); clear hb5 hb4 hs4 h4; go_simp; (have h := hK () W hW0); simp only [ovl, Array.getD_eq_getD_getElem?, List.getElem?_toArray, List.getElem?_cons_succ, List.getElem?_cons_zero, Option.getD_some, List.setIfInBounds_toArray, List.set_cons_zero, List.set_cons_succ] at h; (try simp (decide := true) only [upd, hd, cond_true, cond_false, Bool.true_or, Bool.false_or, decide_true, decide_false] at h); exact h))
  · intro L x W hW hC hL hd K hK; (try simp [depsB, Region.binds] at hd); (try simp only [Nat.reduceAdd] at hK hL)
    simp only [ovl, Array.getD_eq_getD_getElem?, List.getElem?_toArray, List.getElem?_cons_succ, List.getElem?_cons_zero, Option.getD_some, List.setIfInBounds_toArray, List.set_cons_zero, List.set_cons_succ]; (try simp only [hd, cond_true, cond_false])
    refine wp_call_in 54 (by rfl) (by kernel_rfl) #[.slice ac l.length cc] (by (simp only [List.map_toArray, List.map_cons, List.map_nil, Act.eval, Array.getD_eq_getD_getElem?, List.getElem?_toArray, List.getElem?_cons_succ, List.getElem?_cons_zero, Option.getD_some])) ((few_to ac l.length cc k HK.out HCC.out W).mono ?_)
    rintro e W4 ⟨rfl, rfl⟩
    refine ⟨_, rfl, ?_⟩
    (have h := hK x _ hW); simp only [ovl, Array.getD_eq_getD_getElem?, List.getElem?_toArray, List.getElem?_cons_succ, List.getElem?_cons_zero, Option.getD_some, List.setIfInBounds_toArray, List.set_cons_zero, List.set_cons_succ] at h; (try simp (decide := true) only [upd, hd, cond_true, cond_false, Bool.true_or, Bool.false_or, decide_true, decide_false] at h); exact h
  · intro L x W hW hC hL hd K hK; (try simp [depsB, Region.binds] at hd); (try simp only [Nat.reduceAdd] at hK hL)
    simp only [hL, cond_false] at hW
    simp only [ovl, Array.getD_eq_getD_getElem?, List.getElem?_toArray, List.getElem?_cons_succ, List.getElem?_cons_zero, Option.getD_some, List.setIfInBounds_toArray, List.set_cons_zero, List.set_cons_succ]; (try simp only [hd, cond_true, cond_false])
    obtain ⟨X4, hs4, h4⟩ := hW
    refine wp_call_in 29 (by rfl) (by kernel_rfl) #[ptr p, .int .i64 n, .slice ac k cc] (by (simp only [List.map_toArray, List.map_cons, List.map_nil, Act.eval, Array.getD_eq_getD_getElem?, List.getElem?_toArray, List.getElem?_cons_succ, List.getElem?_cons_zero, Option.getD_some])) ((note_to p G n _ (l.take k) W w0 _ X4 h4 (bsl_fst (h4.bsl (HC.out.mono fun x hx => hs4 x (List.mem_cons_of_mem _ hx))) k (by have := HK.out; omega)) E HE.out G' HG'.out).mono ?_)
    rintro e W4 ⟨rfl, X5, hs5, h5⟩
    refine ⟨_, rfl, ?_⟩
    (have h := hK () W4 ⟨X5, hs4.trans hs5, h5⟩); simp only [ovl, Array.getD_eq_getD_getElem?, List.getElem?_toArray, List.getElem?_cons_succ, List.getElem?_cons_zero, Option.getD_some, List.setIfInBounds_toArray, List.set_cons_zero, List.set_cons_succ] at h; (try simp (decide := true) only [upd, hd, cond_true, cond_false, Bool.true_or, Bool.false_or, decide_true, decide_false] at h); exact h
  iterate 2 (· (intro L x W hW hC hL hd K hK; (try simp [depsB, Region.binds] at hd); (try simp only [Nat.reduceAdd] at hK hL); simp only [ovl, Array.getD_eq_getD_getElem?, List.getElem?_toArray, List.getElem?_cons_succ, List.getElem?_cons_zero, Option.getD_some, List.setIfInBounds_toArray, List.set_cons_zero, List.set_cons_succ]; (try simp only [hd, cond_true, cond_false]); (have hW0 := hW); clear hW; go_simp; (have h := hK () W hW0); simp only [ovl, Array.getD_eq_getD_getElem?, List.getElem?_toArray, List.getElem?_cons_succ, List.getElem?_cons_zero, Option.getD_some, List.setIfInBounds_toArray, List.set_cons_zero, List.set_cons_succ] at h; (try simp (decide := true) only [upd, hd, cond_true, cond_false, Bool.true_or, Bool.false_or, decide_true, decide_false] at h); exact h))
  · intro L x W hW hC hL hd K hK; (try simp [depsB, Region.binds] at hd); (try simp only [Nat.reduceAdd] at hK hL)
    simp only [hL, hd, cond_false, cond_true] at hW
    simp only [ovl, Array.getD_eq_getD_getElem?, List.getElem?_toArray, List.getElem?_cons_succ, List.getElem?_cons_zero, Option.getD_some, List.setIfInBounds_toArray, List.set_cons_zero, List.set_cons_succ]; (try simp only [hd, cond_true, cond_false])
    obtain ⟨X4, hs4, h4⟩ := hW
    refine h4.store 61 (.tmp 6) (.tmp 45) (by rfl) (by rfl) #[.int .i64 R'.towers, .int .i64 R'.need, .int .i64 R'.newest, .string ⟨R'.claim.toArray⟩, .slice ah nT ch, .bool R'.sl, .int .i64 R'.fr, .int .i64 R'.to] (by rfl) (by kernel_rfl) (by rfl) (by simp [Value.oneCell']) (fun W5 h5 => ?_)
    (have h := hK () W5 ⟨X4, hs4, by simpa [upd, hd] using h5⟩); simp only [ovl, Array.getD_eq_getD_getElem?, List.getElem?_toArray, List.getElem?_cons_succ, List.getElem?_cons_zero, Option.getD_some, List.setIfInBounds_toArray, List.set_cons_zero, List.set_cons_succ] at h; (try simp (decide := true) only [upd, hd, cond_true, cond_false, Bool.true_or, Bool.false_or, decide_true, decide_false] at h); exact h
  iterate 1 (· (intro L x W hW hC hL hd K hK; (try simp [depsB, Region.binds] at hd); (try simp only [Nat.reduceAdd] at hK hL); simp only [ovl, Array.getD_eq_getD_getElem?, List.getElem?_toArray, List.getElem?_cons_succ, List.getElem?_cons_zero, Option.getD_some, List.setIfInBounds_toArray, List.set_cons_zero, List.set_cons_succ]; (try simp only [hd, cond_true, cond_false]); (have hW0 := hW); clear hW; go_simp; (have h := hK () W hW0); simp only [ovl, Array.getD_eq_getD_getElem?, List.getElem?_toArray, List.getElem?_cons_succ, List.getElem?_cons_zero, Option.getD_some, List.setIfInBounds_toArray, List.set_cons_zero, List.set_cons_succ] at h; (try simp (decide := true) only [upd, hd, cond_true, cond_false, Bool.true_or, Bool.false_or, decide_true, decide_false] at h); exact h))
  intro x W9 hW9
  simp only [ovl, cond_true, Array.getD_eq_getD_getElem?, List.getElem?_toArray, List.getElem?_cons_succ, List.getElem?_cons_zero, Option.getD_some, List.setIfInBounds_toArray, List.set_cons_zero, List.set_cons_succ]
  simp only [cond_true] at hW9
  obtain ⟨X9, hs9, h9⟩ := hW9
  have hb := h9.has (b := w.heap.size + 2) (t := 61) (cs := #[.int .i64 R'.towers, .int .i64 R'.need, .int .i64 R'.newest, .string ⟨R'.claim.toArray⟩, .slice ah nT ch, .bool R'.sl, .int .i64 R'.fr, .int .i64 R'.to]) (List.mem_cons_self ..)
  (have e0 := hb.cell 0); (have e1 := hb.cell 1); (have e2 := hb.cell 2); (have e3 := hb.cell 3); (have e4 := hb.cell 4); (have e5 := hb.cell 5); (have e6 := hb.cell 6); (have e7 := hb.cell 7)
  have H9 := Lib.hid (h9.dropC (B := [_]))
  have HX9 := Lib.hid hs9
  clear h9 hs9 hb
  go_wp2
  refine bodyPost_ret (v := .tuple #[.agg #[.int .i64 R'.towers, .int .i64 R'.need, .int .i64 R'.newest, .string ⟨R'.claim.toArray⟩, .slice ah nT ch, .bool R'.sl, .int .i64 R'.fr, .int .i64 R'.to], .bool true]) (by simp [results, Try.results48, go_sem, e0, e1, e2, e3, e4, e5, e6, e7]) rfl ?_
  have hsx : ∀ x ∈ X1, x ∈ X9 := fun x hx => HX9.out x (List.mem_cons_of_mem _ hx)
  refine ⟨G', R', .slice ah nT ch, X9, rfl, fun x hx => hsx x (HXX.out x hx), H9.out, ?_, HGR.out⟩
  rw [HhR.out.1, HhR.out.2, HnT.out]
  exact HS1.out.mono hsx

set_option maxRecDepth 100000 in
set_option maxHeartbeats 2000000 in
theorem do_ack (kd wh n m b : Int) (hk : cutN kd 4 = 1) (ac : Option Addr) (cl cc : Nat) (w w0 : World) (C X : List Blk) (p : Nat) (G : GS) (R : RS) (hv : Value) (h : Gu w w0 C X p G) (hs : Sl w0 X hv R.towers (ics R.has)) (hr : GR G R) :
    Calls Try.prog 48 #[ptr p, .agg #[.int .i64 R.towers, .int .i64 R.need, .int .i64 R.newest, .string ⟨R.claim.toArray⟩, hv, .bool R.sl, .int .i64 R.fr, .int .i64 R.to], .agg #[.int .i64 kd, .int .i64 wh, .int .i64 n, .int .i64 m, .int .i64 b, .slice ac cl cc]] w fun e w' => ∃ G' R' hv' X', e = .returned (.tuple #[.agg #[.int .i64 R'.towers, .int .i64 R'.need, .int .i64 R'.newest, .string ⟨R'.claim.toArray⟩, hv', .bool R'.sl, .int .i64 R'.fr, .int .i64 R'.to], .bool true]) ∧ Sub X X' ∧ Gu w' w0 C X' p G' ∧ Sl w0 X' hv' R'.towers (ics R'.has) ∧ GR G' R' := by
  have ez := cut_eq kd 4 (by omega) (by omega)
  rw [hk] at ez
  have ez' : wrap64 ((IntKind.u64.wrap kd).tmod 4) = (1 : Int) := ez
  clear ez hk
  obtain ⟨nT, HnT⟩ : ∃ k, Hid (R.towers = k) := ⟨_, rfl⟩
  have hs0 := hs
  rw [HnT.out] at hs
  obtain ⟨ah, ch, rfl, -⟩ := hs.slice
  have HSl := Lib.hid hs0
  have HR := Lib.hid hr
  have HtG : Hid (G.towers ≤ 16) := by show _ ≤ _; rw [hr.tow]; exact hr.tt
  obtain ⟨E, HE⟩ : ∃ y, Hid (rackE R wh n = y) := ⟨_, rfl⟩
  have HE2 : Hid (ackE G wh n = E) := by show _ = _; rw [hr.ackE, HE.out]
  obtain ⟨G', HG'⟩ : ∃ y, Hid (ackG G wh n = y) := ⟨_, rfl⟩
  obtain ⟨R', HR'⟩ : ∃ y, Hid (rackS R wh n = y) := ⟨_, rfl⟩
  have HGR : Hid (GR G' R') := by
    rw [← HG'.out, ← HR'.out]
    unfold rackS
    by_cases h0 : rackE R wh n = 0
    · rw [if_pos h0]; exact hr.ack wh n h0
    · rw [if_neg h0]
      unfold ackG
      rw [hr.ackE, if_neg h0]
      exact hr
  have HS := Lib.hid (((h.key #[.int .i64 R.towers, .int .i64 R.need, .int .i64 R.newest, .string ⟨R.claim.toArray⟩, .slice ah nT ch, .bool R.sl, .int .i64 R.fr, .int .i64 R.to] 61 w.heap.size rfl).key #[.int .i64 kd, .int .i64 wh, .int .i64 n, .int .i64 m, .int .i64 b, .slice ac cl cc] 99 (w.heap.size + 1) (by simp)).park (cs := #[.int .i64 0, .int .i64 0, .int .i64 0, .string ByteArray.empty, .slice none 0 0, .bool false, .int .i64 0, .int .i64 0]) (b := w.heap.size + 2) (t := 61) (by simp))
  obtain ⟨X1, HX1⟩ : ∃ y, Hid (y = (⟨w.heap.size + 1, 99, #[.int .i64 kd, .int .i64 wh, .int .i64 n, .int .i64 m, .int .i64 b, .slice ac cl cc]⟩ :: (⟨w.heap.size, 61, #[.int .i64 R.towers, .int .i64 R.need, .int .i64 R.newest, .string ⟨R.claim.toArray⟩, .slice ah nT ch, .bool R.sl, .int .i64 R.fr, .int .i64 R.to]⟩ :: X))) := ⟨_, rfl⟩
  have HX5 : Hid (⟨w.heap.size + 1, 99, #[.int .i64 kd, .int .i64 wh, .int .i64 n, .int .i64 m, .int .i64 b, .slice ac cl cc]⟩ ∈ X1) := by rw [HX1.out]; exact List.mem_cons_self ..
  have HX4 : Hid (⟨w.heap.size, 61, #[.int .i64 R.towers, .int .i64 R.need, .int .i64 R.newest, .string ⟨R.claim.toArray⟩, .slice ah nT ch, .bool R.sl, .int .i64 R.fr, .int .i64 R.to]⟩ ∈ X1) := by rw [HX1.out]; exact List.mem_cons_of_mem _ (List.mem_cons_self ..)
  have HXX : Hid (Sub X X1) := by rw [HX1.out]; exact fun x hx => by simp [hx]
  have HS1 := Lib.hid (HSl.out.mono HXX.out)
  rw [← HX1.out] at HS
  clear hs hs0 hr h HX1
  go_enter Try.func48, Try.ntmps48
  go_wp2_with fail
  refine (HS.out.rack R _ wh n HR.out.len HR.out.tt HS1.out E HE.out R' HR'.out).mono ?_
  rintro e w2 ⟨hv', X2, rfl, hs2, h2, l2⟩
  obtain ⟨ah2, ch2, rfl, -⟩ := l2.slice
  have HB5 := Lib.hid (hs2 _ HX5.out)
  have HX2 : Hid (Sub X X2) := fun x hx => hs2 x (HXX.out x hx)
  have HL2 := Lib.hid l2
  have H3 := Lib.hid (h2.key #[.int .i64 R'.towers, .int .i64 R'.need, .int .i64 R'.newest, .string ⟨R'.claim.toArray⟩, .slice ah2 R'.towers ch2, .bool R'.sl, .int .i64 R'.fr, .int .i64 R'.to] 61 w2.heap.size rfl)
  clear HS h2 hs2 l2
  go_wp2_with fail
  refine wp_opq (fun W => Gu W w0 (⟨w.heap.size + 2, 61, #[.int .i64 0, .int .i64 0, .int .i64 0, .string ByteArray.empty, .slice none 0 0, .bool false, .int .i64 0, .int .i64 0]⟩ :: C) (⟨w2.heap.size, 61, #[.int .i64 R'.towers, .int .i64 R'.need, .int .i64 R'.newest, .string ⟨R'.claim.toArray⟩, .slice ah2 R'.towers ch2, .bool R'.sl, .int .i64 R'.fr, .int .i64 R'.to]⟩ :: X2) p G) H3.out ?_
  intro W3 h3
  have H3' := Lib.hid h3
  clear h3 H3
  (try simp only [ez'])
  refine wp_region_ov (fun L (_ : Unit) => [(L 0, 66, .agg #[.int .i64 R'.towers, .int .i64 R'.need, .int .i64 R'.newest, .string ⟨R'.claim.toArray⟩, .slice ah2 R'.towers ch2, .bool R'.sl, .int .i64 R'.fr, .int .i64 R'.to]), (L 1, 67, ptr p), (L 2, 68, .pointer (some ⟨w.heap.size + 1, 1, none⟩)), (L 3, 69, .int .i64 wh), (L 4, 70, .pointer (some ⟨w.heap.size + 1, 2, none⟩)), (L 5, 71, .int .i64 n), (L 6, 72, .int .i64 E), (L 7, 73, .int .i64 E), (L 8, 74, .bool true), (L 10, 7, .bool true)])
    (fun L _ W => Gu W w0 (⟨w.heap.size + 2, 61, bif L 9 then #[.int .i64 R'.towers, .int .i64 R'.need, .int .i64 R'.newest, .string ⟨R'.claim.toArray⟩, .slice ah2 R'.towers ch2, .bool R'.sl, .int .i64 R'.fr, .int .i64 R'.to] else #[.int .i64 0, .int .i64 0, .int .i64 0, .string ByteArray.empty, .slice none 0 0, .bool false, .int .i64 0, .int .i64 0]⟩ :: C) (⟨w2.heap.size, 61, #[.int .i64 R'.towers, .int .i64 R'.need, .int .i64 R'.newest, .string ⟨R'.claim.toArray⟩, .slice ah2 R'.towers ch2, .bool R'.sl, .int .i64 R'.fr, .int .i64 R'.to]⟩ :: X2) p (bif L 6 then G' else G)) () (by kernel_rfl) (by kernel_rfl) (by rfl) H3'.out.drew ?_ ⟨?_, ?_, ?_, ?_, ?_, ?_, ?_, ?_, ?_, ?_, ?_, trivial⟩
  rotate_left
  iterate 6 (· (intro L x W hW hC hL hd K hK; (try simp [depsB, Region.binds] at hd); (try simp only [Nat.reduceAdd] at hK hL); simp only [ovl, Array.getD_eq_getD_getElem?, List.getElem?_toArray, List.getElem?_cons_succ, List.getElem?_cons_zero, Option.getD_some, List.setIfInBounds_toArray, List.set_cons_zero, List.set_cons_succ]; (try simp only [hd, cond_true, cond_false]); (have hW0 := hW); (have hb5 : HasBlk W (w.heap.size + 1) 99 #[.int .i64 kd, .int .i64 wh, .int .i64 n, .int .i64 m, .int .i64 b, .slice ac cl cc] := hW.hasX (List.mem_cons_of_mem _ HB5.out)); (have k1 := hb5.cell 1); (have k2 := hb5.cell 2); (have l5 := hb5.lt); (have hb4 : HasBlk W w2.heap.size 61 #[.int .i64 R'.towers, .int .i64 R'.need, .int .i64 R'.newest, .string ⟨R'.claim.toArray⟩, .slice ah2 R'.towers ch2, .bool R'.sl, .int .i64 R'.fr, .int .i64 R'.to] := hW.hasX (List.mem_cons_self ..)); (have d0 := hb4.cell 0); (have d1 := hb4.cell 1); (have d2 := hb4.cell 2); (have d3 := hb4.cell 3); (have d4 := hb4.cell 4); (have d5 := hb4.cell 5); (have d6 := hb4.cell 6); (have d7 := hb4.cell 7); (have l4 := hb4.lt); clear hb5 hb4 hW; go_simp; (have h := hK () W hW0); simp only [ovl, Array.getD_eq_getD_getElem?, List.getElem?_toArray, List.getElem?_cons_succ, List.getElem?_cons_zero, Option.getD_some, List.setIfInBounds_toArray, List.set_cons_zero, List.set_cons_succ] at h; (try simp (decide := true) only [upd, hd, cond_true, cond_false, Bool.true_or, Bool.false_or, decide_true, decide_false] at h); exact h))
  · intro L x W hW hC hL hd K hK; (try simp [depsB, Region.binds] at hd); (try simp only [Nat.reduceAdd] at hK hL)
    simp only [ovl, Array.getD_eq_getD_getElem?, List.getElem?_toArray, List.getElem?_cons_succ, List.getElem?_cons_zero, Option.getD_some, List.setIfInBounds_toArray, List.set_cons_zero, List.set_cons_succ]; (try simp only [hd, cond_true, cond_false])
    simp only [hL, cond_false] at hW
    refine wp_call_in 30 (by rfl) (by kernel_rfl) #[ptr p, .int .i64 wh, .int .i64 n] (by (simp only [List.map_toArray, List.map_cons, List.map_nil, Act.eval, Array.getD_eq_getD_getElem?, List.getElem?_toArray, List.getElem?_cons_succ, List.getElem?_cons_zero, Option.getD_some])) ((ack_to p G wh n W w0 _ _ hW HtG.out E HE2.out G' HG'.out).mono ?_)
    rintro e W4 ⟨rfl, h5⟩
    refine ⟨_, rfl, ?_⟩
    (have h := hK () W4 h5); simp only [ovl, Array.getD_eq_getD_getElem?, List.getElem?_toArray, List.getElem?_cons_succ, List.getElem?_cons_zero, Option.getD_some, List.setIfInBounds_toArray, List.set_cons_zero, List.set_cons_succ] at h; (try simp (decide := true) only [upd, hd, cond_true, cond_false, Bool.true_or, Bool.false_or, decide_true, decide_false] at h); exact h
  iterate 2 (· (intro L x W hW hC hL hd K hK; (try simp [depsB, Region.binds] at hd); (try simp only [Nat.reduceAdd] at hK hL); simp only [ovl, Array.getD_eq_getD_getElem?, List.getElem?_toArray, List.getElem?_cons_succ, List.getElem?_cons_zero, Option.getD_some, List.setIfInBounds_toArray, List.set_cons_zero, List.set_cons_succ]; (try simp only [hd, cond_true, cond_false]); (have hW0 := hW); clear hW; go_simp; (have h := hK () W hW0); simp only [ovl, Array.getD_eq_getD_getElem?, List.getElem?_toArray, List.getElem?_cons_succ, List.getElem?_cons_zero, Option.getD_some, List.setIfInBounds_toArray, List.set_cons_zero, List.set_cons_succ] at h; (try simp (decide := true) only [upd, hd, cond_true, cond_false, Bool.true_or, Bool.false_or, decide_true, decide_false] at h); exact h))
  · intro L x W hW hC hL hd K hK; (try simp [depsB, Region.binds] at hd); (try simp only [Nat.reduceAdd] at hK hL)
    simp only [ovl, Array.getD_eq_getD_getElem?, List.getElem?_toArray, List.getElem?_cons_succ, List.getElem?_cons_zero, Option.getD_some, List.setIfInBounds_toArray, List.set_cons_zero, List.set_cons_succ]; (try simp only [hd, cond_true, cond_false])
    simp only [hL, hd, cond_false, cond_true] at hW
    refine hW.store 61 (.tmp 6) (.tmp 66) (by rfl) (by rfl) #[.int .i64 R'.towers, .int .i64 R'.need, .int .i64 R'.newest, .string ⟨R'.claim.toArray⟩, .slice ah2 R'.towers ch2, .bool R'.sl, .int .i64 R'.fr, .int .i64 R'.to] (by rfl) (by kernel_rfl) (by rfl) (by simp [Value.oneCell']) (fun W5 h5 => ?_)
    (have h := hK () W5 (by simpa [upd, hd] using h5)); simp only [ovl, Array.getD_eq_getD_getElem?, List.getElem?_toArray, List.getElem?_cons_succ, List.getElem?_cons_zero, Option.getD_some, List.setIfInBounds_toArray, List.set_cons_zero, List.set_cons_succ] at h; (try simp (decide := true) only [upd, hd, cond_true, cond_false, Bool.true_or, Bool.false_or, decide_true, decide_false] at h); exact h
  iterate 1 (· (intro L x W hW hC hL hd K hK; (try simp [depsB, Region.binds] at hd); (try simp only [Nat.reduceAdd] at hK hL); simp only [ovl, Array.getD_eq_getD_getElem?, List.getElem?_toArray, List.getElem?_cons_succ, List.getElem?_cons_zero, Option.getD_some, List.setIfInBounds_toArray, List.set_cons_zero, List.set_cons_succ]; (try simp only [hd, cond_true, cond_false]); (have hW0 := hW); clear hW; go_simp; (have h := hK () W hW0); simp only [ovl, Array.getD_eq_getD_getElem?, List.getElem?_toArray, List.getElem?_cons_succ, List.getElem?_cons_zero, Option.getD_some, List.setIfInBounds_toArray, List.set_cons_zero, List.set_cons_succ] at h; (try simp (decide := true) only [upd, hd, cond_true, cond_false, Bool.true_or, Bool.false_or, decide_true, decide_false] at h); exact h))
  intro x W9 hW9
  simp only [ovl, cond_true, Array.getD_eq_getD_getElem?, List.getElem?_toArray, List.getElem?_cons_succ, List.getElem?_cons_zero, Option.getD_some, List.setIfInBounds_toArray, List.set_cons_zero, List.set_cons_succ]
  simp only [cond_true] at hW9
  have hb := hW9.has (b := w.heap.size + 2) (t := 61) (cs := #[.int .i64 R'.towers, .int .i64 R'.need, .int .i64 R'.newest, .string ⟨R'.claim.toArray⟩, .slice ah2 R'.towers ch2, .bool R'.sl, .int .i64 R'.fr, .int .i64 R'.to]) (List.mem_cons_self ..)
  (have e0 := hb.cell 0); (have e1 := hb.cell 1); (have e2 := hb.cell 2); (have e3 := hb.cell 3); (have e4 := hb.cell 4); (have e5 := hb.cell 5); (have e6 := hb.cell 6); (have e7 := hb.cell 7)
  have H9 := Lib.hid (hW9.dropC (B := [_]))
  clear hW9 hb
  go_wp2
  refine bodyPost_ret (v := .tuple #[.agg #[.int .i64 R'.towers, .int .i64 R'.need, .int .i64 R'.newest, .string ⟨R'.claim.toArray⟩, .slice ah2 R'.towers ch2, .bool R'.sl, .int .i64 R'.fr, .int .i64 R'.to], .bool true]) (by simp [results, Try.results48, go_sem, e0, e1, e2, e3, e4, e5, e6, e7]) rfl ?_
  exact ⟨G', R', .slice ah2 R'.towers ch2, _, rfl, fun x hx => List.mem_cons_of_mem _ (HX2.out x hx), H9.out, HL2.out.mono (fun x hx => List.mem_cons_of_mem _ hx), HGR.out⟩

set_option maxRecDepth 100000 in
set_option maxHeartbeats 2000000 in
theorem do_sleep (kd wh n m b : Int) (hk : cutN kd 4 = 2) (ac : Option Addr) (cl cc : Nat) (w w0 : World) (C X : List Blk) (p : Nat) (G : GS) (R : RS) (hv : Value) (h : Gu w w0 C X p G) (hs : Sl w0 X hv R.towers (ics R.has)) (hr : GR G R) :
    Calls Try.prog 48 #[ptr p, .agg #[.int .i64 R.towers, .int .i64 R.need, .int .i64 R.newest, .string ⟨R.claim.toArray⟩, hv, .bool R.sl, .int .i64 R.fr, .int .i64 R.to], .agg #[.int .i64 kd, .int .i64 wh, .int .i64 n, .int .i64 m, .int .i64 b, .slice ac cl cc]] w fun e w' => ∃ G' R' hv' X', e = .returned (.tuple #[.agg #[.int .i64 R'.towers, .int .i64 R'.need, .int .i64 R'.newest, .string ⟨R'.claim.toArray⟩, hv', .bool R'.sl, .int .i64 R'.fr, .int .i64 R'.to], .bool true]) ∧ Sub X X' ∧ Gu w' w0 C X' p G' ∧ Sl w0 X' hv' R'.towers (ics R'.has) ∧ GR G' R' := by
  have ez := cut_eq kd 4 (by omega) (by omega)
  rw [hk] at ez
  have ez' : wrap64 ((IntKind.u64.wrap kd).tmod 4) = (2 : Int) := ez
  clear ez hk
  obtain ⟨nT, HnT⟩ : ∃ k, Hid (R.towers = k) := ⟨_, rfl⟩
  have hs0 := hs
  rw [HnT.out] at hs
  obtain ⟨ah, ch, rfl, -⟩ := hs.slice
  have HSl := Lib.hid hs0
  have HR := Lib.hid hr
  have HtG : Hid (G.towers ≤ 16) := by show _ ≤ _; rw [hr.tow]; exact hr.tt
  obtain ⟨cE, HCE⟩ : ∃ y, Hid (checkE b = y) := ⟨_, rfl⟩
  obtain ⟨E, HE⟩ : ∃ y, Hid (sleepE G b n m = y) := ⟨_, rfl⟩
  have HE2 : Hid (rsleepE R cE b n m = (E : Int)) := by show _ = _; rw [← HE.out, hr.sleepE, HCE.out]
  obtain ⟨G', HG'⟩ : ∃ y, Hid (sleepG G b n m = y) := ⟨_, rfl⟩
  obtain ⟨R', HR'⟩ : ∃ y, Hid (rsleepR R cE b n m = y) := ⟨_, rfl⟩
  have HGR : Hid (GR G' R') := by
    rw [← HG'.out, ← HR'.out, ← HCE.out]
    exact hr.sleep b n m
  have HhR : Hid (R'.has = R.has ∧ R'.towers = R.towers) := by rw [← HR'.out]; exact rsleepR_has _ _ _ _ _
  have HMO : Hid ((cE : Int) = 0 → 0 ≤ b) := by
    intro h0
    have h1 := HCE.out
    unfold checkE at h1
    split at h1 <;> omega
  have HS := Lib.hid (((h.key #[.int .i64 R.towers, .int .i64 R.need, .int .i64 R.newest, .string ⟨R.claim.toArray⟩, .slice ah nT ch, .bool R.sl, .int .i64 R.fr, .int .i64 R.to] 61 w.heap.size rfl).key #[.int .i64 kd, .int .i64 wh, .int .i64 n, .int .i64 m, .int .i64 b, .slice ac cl cc] 99 (w.heap.size + 1) (by simp)).park (cs := #[.int .i64 0, .int .i64 0, .int .i64 0, .string ByteArray.empty, .slice none 0 0, .bool false, .int .i64 0, .int .i64 0]) (b := w.heap.size + 2) (t := 61) (by simp))
  obtain ⟨X1, HX1⟩ : ∃ y, Hid (y = (⟨w.heap.size + 1, 99, #[.int .i64 kd, .int .i64 wh, .int .i64 n, .int .i64 m, .int .i64 b, .slice ac cl cc]⟩ :: (⟨w.heap.size, 61, #[.int .i64 R.towers, .int .i64 R.need, .int .i64 R.newest, .string ⟨R.claim.toArray⟩, .slice ah nT ch, .bool R.sl, .int .i64 R.fr, .int .i64 R.to]⟩ :: X))) := ⟨_, rfl⟩
  have HX5 : Hid (⟨w.heap.size + 1, 99, #[.int .i64 kd, .int .i64 wh, .int .i64 n, .int .i64 m, .int .i64 b, .slice ac cl cc]⟩ ∈ X1) := by rw [HX1.out]; exact List.mem_cons_self ..
  have HX4 : Hid (⟨w.heap.size, 61, #[.int .i64 R.towers, .int .i64 R.need, .int .i64 R.newest, .string ⟨R.claim.toArray⟩, .slice ah nT ch, .bool R.sl, .int .i64 R.fr, .int .i64 R.to]⟩ ∈ X1) := by rw [HX1.out]; exact List.mem_cons_of_mem _ (List.mem_cons_self ..)
  have HXX : Hid (Sub X X1) := by rw [HX1.out]; exact fun x hx => by simp [hx]
  have HS1 := Lib.hid (HSl.out.mono HXX.out)
  rw [← HX1.out] at HS
  clear hs hs0 hr h HX1
  go_enter Try.func48, Try.ntmps48
  go_wp2_with fail
  refine wp_opq (fun W => Gu W w0 (⟨w.heap.size + 2, 61, #[.int .i64 0, .int .i64 0, .int .i64 0, .string ByteArray.empty, .slice none 0 0, .bool false, .int .i64 0, .int .i64 0]⟩ :: C) (⟨w.heap.size + 3, 90, #[.int .i64 0, .int .i64 0, .int .i64 b]⟩ :: X1) p G) (HS.out.key #[.int .i64 0, .int .i64 0, .int .i64 b] 90 (w.heap.size + 3) (by simp)) ?_
  intro W3 h3
  have H3' := Lib.hid h3
  clear h3 HS
  (try simp only [ez'])
  refine wp_region_ov (fun L (x : Nat) => [(L 0, 81, .agg #[.int .i64 R.towers, .int .i64 R.need, .int .i64 R.newest, .string ⟨R.claim.toArray⟩, .slice ah nT ch, .bool R.sl, .int .i64 R.fr, .int .i64 R.to]), (L 1, 82, .agg #[.int .i64 0, .int .i64 0, .int .i64 b]), (L 2, 83, .int .i64 cE), (L 3, 84, .pointer (some ⟨w.heap.size + 1, 4, none⟩)), (L 4, 85, .int .i64 b), (L 5, 86, .pointer (some ⟨w.heap.size + 1, 2, none⟩)), (L 6, 87, .int .i64 n), (L 7, 88, .pointer (some ⟨w.heap.size + 1, 3, none⟩)), (L 8, 89, .int .i64 m), (L 9, 90, .tuple #[.agg #[.int .i64 R'.towers, .int .i64 R'.need, .int .i64 R'.newest, .string ⟨R'.claim.toArray⟩, .slice ah nT ch, .bool R'.sl, .int .i64 R'.fr, .int .i64 R'.to], .int .i64 E]), (L 10, 80, .tuple #[.agg #[.int .i64 R'.towers, .int .i64 R'.need, .int .i64 R'.newest, .string ⟨R'.claim.toArray⟩, .slice ah nT ch, .bool R'.sl, .int .i64 R'.fr, .int .i64 R'.to], .int .i64 E]), (L 11, 91, .agg #[.int .i64 R'.towers, .int .i64 R'.need, .int .i64 R'.newest, .string ⟨R'.claim.toArray⟩, .slice ah nT ch, .bool R'.sl, .int .i64 R'.fr, .int .i64 R'.to]), (L 12, 92, .int .i64 E), (L 13, 15, ptr x), (L 15, 16, .int .i64 E)])
    (fun L x W => Gu W w0 (bif L 13 then (⟨x, 61, bif L 14 then #[.int .i64 R'.towers, .int .i64 R'.need, .int .i64 R'.newest, .string ⟨R'.claim.toArray⟩, .slice ah nT ch, .bool R'.sl, .int .i64 R'.fr, .int .i64 R'.to] else #[.int .i64 0, .int .i64 0, .int .i64 0, .string ByteArray.empty, .slice none 0 0, .bool false, .int .i64 0, .int .i64 0]⟩ :: (⟨w.heap.size + 2, 61, #[.int .i64 0, .int .i64 0, .int .i64 0, .string ByteArray.empty, .slice none 0 0, .bool false, .int .i64 0, .int .i64 0]⟩ :: C)) else (⟨w.heap.size + 2, 61, #[.int .i64 0, .int .i64 0, .int .i64 0, .string ByteArray.empty, .slice none 0 0, .bool false, .int .i64 0, .int .i64 0]⟩ :: C)) (⟨w.heap.size + 3, 90, #[.int .i64 0, .int .i64 0, .int .i64 b]⟩ :: X1) p G) 0 (by kernel_rfl) (by kernel_rfl) (by rfl) H3'.out.drew ?_ ⟨?_, ?_, ?_, ?_, ?_, ?_, ?_, ?_, ?_, ?_, ?_, ?_, ?_, ?_, ?_, ?_, trivial⟩
  rotate_left
  iterate 2 (· (intro L x W hW hC hL hd K hK; (try simp [depsB, Region.binds] at hd); (try simp only [Nat.reduceAdd] at hK hL); simp only [ovl, Array.getD_eq_getD_getElem?, List.getElem?_toArray, List.getElem?_cons_succ, List.getElem?_cons_zero, Option.getD_some, List.setIfInBounds_toArray, List.set_cons_zero, List.set_cons_succ]; (try simp only [hd, cond_true, cond_false]); (have hW0 := hW); (have hb5 : HasBlk W (w.heap.size + 1) 99 #[.int .i64 kd, .int .i64 wh, .int .i64 n, .int .i64 m, .int .i64 b, .slice ac cl cc] := hW.hasX (List.mem_cons_of_mem _ HX5.out)); (have k2 := hb5.cell 2); (have k3 := hb5.cell 3); (have k4 := hb5.cell 4); (have l5 := hb5.lt); (have hb4 : HasBlk W w.heap.size 61 #[.int .i64 R.towers, .int .i64 R.need, .int .i64 R.newest, .string ⟨R.claim.toArray⟩, .slice ah nT ch, .bool R.sl, .int .i64 R.fr, .int .i64 R.to] := hW.hasX (List.mem_cons_of_mem _ HX4.out)); (have d0 := hb4.cell 0); (have d1 := hb4.cell 1); (have d2 := hb4.cell 2); (have d3 := hb4.cell 3); (have d4 := hb4.cell 4); (have d5 := hb4.cell 5); (have d6 := hb4.cell 6); (have d7 := hb4.cell 7); (have l4 := hb4.lt); (have hb6 : HasBlk W (w.heap.size + 3) 90 #[.int .i64 0, .int .i64 0, .int .i64 b] := hW.hasX (List.mem_cons_self ..)); (have q0 := hb6.cell 0); (have q1 := hb6.cell 1); (have q2 := hb6.cell 2); (have l6 := hb6.lt); clear hb5 hb4 hb6; clear hW; go_simp; (have h := hK x W hW0); simp only [ovl, Array.getD_eq_getD_getElem?, List.getElem?_toArray, List.getElem?_cons_succ, List.getElem?_cons_zero, Option.getD_some, List.setIfInBounds_toArray, List.set_cons_zero, List.set_cons_succ] at h; (try simp (decide := true) only [upd, hd, cond_true, cond_false, Bool.true_or, Bool.false_or, decide_true, decide_false] at h); exact h))
  · intro L x W hW hC hL hd K hK; (try simp [depsB, Region.binds] at hd); (try simp only [Nat.reduceAdd] at hK hL)
    simp only [ovl, Array.getD_eq_getD_getElem?, List.getElem?_toArray, List.getElem?_cons_succ, List.getElem?_cons_zero, Option.getD_some, List.setIfInBounds_toArray, List.set_cons_zero, List.set_cons_succ]; (try simp only [hd, cond_true, cond_false])
    refine wp_call_in 71 (by rfl) (by kernel_rfl) #[.agg #[.int .i64 0, .int .i64 0, .int .i64 b]] (by (simp only [List.map_toArray, List.map_cons, List.map_nil, Act.eval, Array.getD_eq_getD_getElem?, List.getElem?_toArray, List.getElem?_cons_succ, List.getElem?_cons_zero, Option.getD_some])) ((check_bounds b cE HCE.out W).mono ?_)
    rintro e W4 ⟨rfl, hb4⟩
    refine ⟨_, rfl, ?_⟩
    (have h := hK x W4 (hW.of_below hb4)); simp only [ovl, Array.getD_eq_getD_getElem?, List.getElem?_toArray, List.getElem?_cons_succ, List.getElem?_cons_zero, Option.getD_some, List.setIfInBounds_toArray, List.set_cons_zero, List.set_cons_succ] at h; (try simp (decide := true) only [upd, hd, cond_true, cond_false, Bool.true_or, Bool.false_or, decide_true, decide_false] at h); exact h
  iterate 6 (· (intro L x W hW hC hL hd K hK; (try simp [depsB, Region.binds] at hd); (try simp only [Nat.reduceAdd] at hK hL); simp only [ovl, Array.getD_eq_getD_getElem?, List.getElem?_toArray, List.getElem?_cons_succ, List.getElem?_cons_zero, Option.getD_some, List.setIfInBounds_toArray, List.set_cons_zero, List.set_cons_succ]; (try simp only [hd, cond_true, cond_false]); (have hW0 := hW); (have hb5 : HasBlk W (w.heap.size + 1) 99 #[.int .i64 kd, .int .i64 wh, .int .i64 n, .int .i64 m, .int .i64 b, .slice ac cl cc] := hW.hasX (List.mem_cons_of_mem _ HX5.out)); (have k2 := hb5.cell 2); (have k3 := hb5.cell 3); (have k4 := hb5.cell 4); (have l5 := hb5.lt); (have hb4 : HasBlk W w.heap.size 61 #[.int .i64 R.towers, .int .i64 R.need, .int .i64 R.newest, .string ⟨R.claim.toArray⟩, .slice ah nT ch, .bool R.sl, .int .i64 R.fr, .int .i64 R.to] := hW.hasX (List.mem_cons_of_mem _ HX4.out)); (have d0 := hb4.cell 0); (have d1 := hb4.cell 1); (have d2 := hb4.cell 2); (have d3 := hb4.cell 3); (have d4 := hb4.cell 4); (have d5 := hb4.cell 5); (have d6 := hb4.cell 6); (have d7 := hb4.cell 7); (have l4 := hb4.lt); (have hb6 : HasBlk W (w.heap.size + 3) 90 #[.int .i64 0, .int .i64 0, .int .i64 b] := hW.hasX (List.mem_cons_self ..)); (have q0 := hb6.cell 0); (have q1 := hb6.cell 1); (have q2 := hb6.cell 2); (have l6 := hb6.lt); clear hb5 hb4 hb6; clear hW; go_simp; (have h := hK x W hW0); simp only [ovl, Array.getD_eq_getD_getElem?, List.getElem?_toArray, List.getElem?_cons_succ, List.getElem?_cons_zero, Option.getD_some, List.setIfInBounds_toArray, List.set_cons_zero, List.set_cons_succ] at h; (try simp (decide := true) only [upd, hd, cond_true, cond_false, Bool.true_or, Bool.false_or, decide_true, decide_false] at h); exact h))
  · intro L x W hW hC hL hd K hK; (try simp [depsB, Region.binds] at hd); (try simp only [Nat.reduceAdd] at hK hL)
    simp only [ovl, Array.getD_eq_getD_getElem?, List.getElem?_toArray, List.getElem?_cons_succ, List.getElem?_cons_zero, Option.getD_some, List.setIfInBounds_toArray, List.set_cons_zero, List.set_cons_succ]; (try simp only [hd, cond_true, cond_false])
    refine wp_call_in 75 (by rfl) (by kernel_rfl) #[.agg #[.int .i64 R.towers, .int .i64 R.need, .int .i64 R.newest, .string ⟨R.claim.toArray⟩, .slice ah nT ch, .bool R.sl, .int .i64 R.fr, .int .i64 R.to], .int .i64 cE, .int .i64 b, .int .i64 n, .int .i64 m] (by (simp only [List.map_toArray, List.map_cons, List.map_nil, Act.eval, Array.getD_eq_getD_getElem?, List.getElem?_toArray, List.getElem?_cons_succ, List.getElem?_cons_zero, Option.getD_some])) ((rsleep_to R _ cE b n m HMO.out W HR.out.len HR.out.tt (hW.sl (HS1.out.mono fun x hx => List.mem_cons_of_mem _ hx)) E HE2.out R' HR'.out).mono ?_)
    rintro e W4 ⟨rfl, hb4⟩
    refine ⟨_, rfl, ?_⟩
    (have h := hK x W4 (hW.of_below hb4)); simp only [ovl, Array.getD_eq_getD_getElem?, List.getElem?_toArray, List.getElem?_cons_succ, List.getElem?_cons_zero, Option.getD_some, List.setIfInBounds_toArray, List.set_cons_zero, List.set_cons_succ] at h; (try simp (decide := true) only [upd, hd, cond_true, cond_false, Bool.true_or, Bool.false_or, decide_true, decide_false] at h); exact h
  iterate 3 (· (intro L x W hW hC hL hd K hK; (try simp [depsB, Region.binds] at hd); (try simp only [Nat.reduceAdd] at hK hL); simp only [ovl, Array.getD_eq_getD_getElem?, List.getElem?_toArray, List.getElem?_cons_succ, List.getElem?_cons_zero, Option.getD_some, List.setIfInBounds_toArray, List.set_cons_zero, List.set_cons_succ]; (try simp only [hd, cond_true, cond_false]); (have hW0 := hW); clear hW; go_simp; (have h := hK x W hW0); simp only [ovl, Array.getD_eq_getD_getElem?, List.getElem?_toArray, List.getElem?_cons_succ, List.getElem?_cons_zero, Option.getD_some, List.setIfInBounds_toArray, List.set_cons_zero, List.set_cons_succ] at h; (try simp (decide := true) only [upd, hd, cond_true, cond_false, Bool.true_or, Bool.false_or, decide_true, decide_false] at h); exact h))
  · intro L x W hW hC hL hd K hK; (try simp [depsB, Region.binds] at hd); (try simp only [Nat.reduceAdd] at hK hL)
    (have h14 : L 14 = false := by cases hl : L 14 with | false => rfl | true => have hx := hC 14 _ rfl hl; simp [depsB, Region.binds, hL, hd] at hx); (replace hd := And.intro hd h14)
    simp only [ovl, Array.getD_eq_getD_getElem?, List.getElem?_toArray, List.getElem?_cons_succ, List.getElem?_cons_zero, Option.getD_some, List.setIfInBounds_toArray, List.set_cons_zero, List.set_cons_succ]; (try simp only [hd, cond_true, cond_false])
    simp only [hL, cond_false] at hW
    refine wp_alloc_op 61 (.agg #[.int .i64 0, .int .i64 0, .int .i64 0, .string ByteArray.empty, .slice none 0 0, .bool false, .int .i64 0, .int .i64 0]) (by rfl) (by kernel_rfl) ?_
    (have h := hK W.heap.size _ (by simpa [upd, hd, Value.cells] using hW.park rfl)); simp only [ovl, Array.getD_eq_getD_getElem?, List.getElem?_toArray, List.getElem?_cons_succ, List.getElem?_cons_zero, Option.getD_some, List.setIfInBounds_toArray, List.set_cons_zero, List.set_cons_succ] at h; (try simp (decide := true) only [upd, hd, cond_true, cond_false, Bool.true_or, Bool.false_or, decide_true, decide_false] at h); exact h
  · intro L x W hW hC hL hd K hK; (try simp [depsB, Region.binds] at hd); (try simp only [Nat.reduceAdd] at hK hL)
    simp only [ovl, Array.getD_eq_getD_getElem?, List.getElem?_toArray, List.getElem?_cons_succ, List.getElem?_cons_zero, Option.getD_some, List.setIfInBounds_toArray, List.set_cons_zero, List.set_cons_succ]; (try simp only [hd, cond_true, cond_false])
    simp only [hL, hd, cond_false, cond_true] at hW
    refine hW.store 61 (.tmp 15) (.tmp 91) (by rfl) (by rfl) #[.int .i64 R'.towers, .int .i64 R'.need, .int .i64 R'.newest, .string ⟨R'.claim.toArray⟩, .slice ah nT ch, .bool R'.sl, .int .i64 R'.fr, .int .i64 R'.to] (by rfl) (by kernel_rfl) (by rfl) (by simp [Value.oneCell']) (fun W' h' => ?_)
    (have h := hK x W' (by simpa [upd, hd] using h')); simp only [ovl, Array.getD_eq_getD_getElem?, List.getElem?_toArray, List.getElem?_cons_succ, List.getElem?_cons_zero, Option.getD_some, List.setIfInBounds_toArray, List.set_cons_zero, List.set_cons_succ] at h; (try simp (decide := true) only [upd, hd, cond_true, cond_false, Bool.true_or, Bool.false_or, decide_true, decide_false] at h); exact h
  iterate 1 (· (intro L x W hW hC hL hd K hK; (try simp [depsB, Region.binds] at hd); (try simp only [Nat.reduceAdd] at hK hL); simp only [ovl, Array.getD_eq_getD_getElem?, List.getElem?_toArray, List.getElem?_cons_succ, List.getElem?_cons_zero, Option.getD_some, List.setIfInBounds_toArray, List.set_cons_zero, List.set_cons_succ]; (try simp only [hd, cond_true, cond_false]); (have hW0 := hW); clear hW; go_simp; (have h := hK x W hW0); simp only [ovl, Array.getD_eq_getD_getElem?, List.getElem?_toArray, List.getElem?_cons_succ, List.getElem?_cons_zero, Option.getD_some, List.setIfInBounds_toArray, List.set_cons_zero, List.set_cons_succ] at h; (try simp (decide := true) only [upd, hd, cond_true, cond_false, Bool.true_or, Bool.false_or, decide_true, decide_false] at h); exact h))
  intro y W9 hW9
  simp only [ovl, cond_true, Array.getD_eq_getD_getElem?, List.getElem?_toArray, List.getElem?_cons_succ, List.getElem?_cons_zero, Option.getD_some, List.setIfInBounds_toArray, List.set_cons_zero, List.set_cons_succ]
  simp only [cond_true] at hW9
  have H9 := Lib.hid hW9.unpark
  clear hW9 H3'
  go_wp2_with fail
  refine wp_opq (fun W => Gu W w0 (⟨w.heap.size + 2, 61, #[.int .i64 0, .int .i64 0, .int .i64 0, .string ByteArray.empty, .slice none 0 0, .bool false, .int .i64 0, .int .i64 0]⟩ :: C) (⟨y, 61, #[.int .i64 R'.towers, .int .i64 R'.need, .int .i64 R'.newest, .string ⟨R'.claim.toArray⟩, .slice ah nT ch, .bool R'.sl, .int .i64 R'.fr, .int .i64 R'.to]⟩ :: (⟨w.heap.size + 3, 90, #[.int .i64 0, .int .i64 0, .int .i64 b]⟩ :: X1)) p G) H9.out ?_
  intro W5 h5
  have H5 := Lib.hid h5
  clear h5 H9
  refine wp_region_ov (fun L (_ : Unit) => [(L 0, 93, .agg #[.int .i64 R'.towers, .int .i64 R'.need, .int .i64 R'.newest, .string ⟨R'.claim.toArray⟩, .slice ah nT ch, .bool R'.sl, .int .i64 R'.fr, .int .i64 R'.to]), (L 1, 94, ptr p), (L 2, 95, .agg #[.int .i64 0, .int .i64 0, .int .i64 b]), (L 3, 96, .pointer (some ⟨w.heap.size + 1, 2, none⟩)), (L 4, 97, .int .i64 n), (L 5, 98, .pointer (some ⟨w.heap.size + 1, 3, none⟩)), (L 6, 99, .int .i64 m), (L 7, 100, .int .i64 E), (L 8, 101, .int .i64 E), (L 9, 102, .bool true), (L 11, 7, .bool true)])
    (fun L _ W => Gu W w0 (⟨w.heap.size + 2, 61, bif L 10 then #[.int .i64 R'.towers, .int .i64 R'.need, .int .i64 R'.newest, .string ⟨R'.claim.toArray⟩, .slice ah nT ch, .bool R'.sl, .int .i64 R'.fr, .int .i64 R'.to] else #[.int .i64 0, .int .i64 0, .int .i64 0, .string ByteArray.empty, .slice none 0 0, .bool false, .int .i64 0, .int .i64 0]⟩ :: C) (⟨y, 61, #[.int .i64 R'.towers, .int .i64 R'.need, .int .i64 R'.newest, .string ⟨R'.claim.toArray⟩, .slice ah nT ch, .bool R'.sl, .int .i64 R'.fr, .int .i64 R'.to]⟩ :: (⟨w.heap.size + 3, 90, #[.int .i64 0, .int .i64 0, .int .i64 b]⟩ :: X1)) p (bif L 7 then G' else G)) () (by kernel_rfl) (by kernel_rfl) (by rfl) H5.out.drew ?_ ⟨?_, ?_, ?_, ?_, ?_, ?_, ?_, ?_, ?_, ?_, ?_, ?_, trivial⟩
  rotate_left
  iterate 7 (· (intro L x W hW hC hL hd K hK; (try simp [depsB, Region.binds] at hd); (try simp only [Nat.reduceAdd] at hK hL); simp only [ovl, Array.getD_eq_getD_getElem?, List.getElem?_toArray, List.getElem?_cons_succ, List.getElem?_cons_zero, Option.getD_some, List.setIfInBounds_toArray, List.set_cons_zero, List.set_cons_succ]; (try simp only [hd, cond_true, cond_false]); (have hW0 := hW); (have hb5 : HasBlk W (w.heap.size + 1) 99 #[.int .i64 kd, .int .i64 wh, .int .i64 n, .int .i64 m, .int .i64 b, .slice ac cl cc] := hW.hasX (List.mem_cons_of_mem _ (List.mem_cons_of_mem _ HX5.out))); (have k2 := hb5.cell 2); (have k3 := hb5.cell 3); (have l5 := hb5.lt); (have hb4 : HasBlk W y 61 #[.int .i64 R'.towers, .int .i64 R'.need, .int .i64 R'.newest, .string ⟨R'.claim.toArray⟩, .slice ah nT ch, .bool R'.sl, .int .i64 R'.fr, .int .i64 R'.to] := hW.hasX (List.mem_cons_self ..)); (have d0 := hb4.cell 0); (have d1 := hb4.cell 1); (have d2 := hb4.cell 2); (have d3 := hb4.cell 3); (have d4 := hb4.cell 4); (have d5 := hb4.cell 5); (have d6 := hb4.cell 6); (have d7 := hb4.cell 7); (have l4 := hb4.lt); (have hb6 : HasBlk W (w.heap.size + 3) 90 #[.int .i64 0, .int .i64 0, .int .i64 b] := hW.hasX (List.mem_cons_of_mem _ (List.mem_cons_self ..))); (have q0 := hb6.cell 0); (have q1 := hb6.cell 1); (have q2 := hb6.cell 2); (have l6 := hb6.lt); clear hb5 hb4 hb6 hW; go_simp; (have h := hK () W hW0); simp only [ovl, Array.getD_eq_getD_getElem?, List.getElem?_toArray, List.getElem?_cons_succ, List.getElem?_cons_zero, Option.getD_some, List.setIfInBounds_toArray, List.set_cons_zero, List.set_cons_succ] at h; (try simp (decide := true) only [upd, hd, cond_true, cond_false, Bool.true_or, Bool.false_or, decide_true, decide_false] at h); exact h))
  · intro L x W hW hC hL hd K hK; (try simp [depsB, Region.binds] at hd); (try simp only [Nat.reduceAdd] at hK hL)
    simp only [ovl, Array.getD_eq_getD_getElem?, List.getElem?_toArray, List.getElem?_cons_succ, List.getElem?_cons_zero, Option.getD_some, List.setIfInBounds_toArray, List.set_cons_zero, List.set_cons_succ]; (try simp only [hd, cond_true, cond_false])
    simp only [hL, cond_false] at hW
    refine wp_call_in 43 (by rfl) (by kernel_rfl) #[ptr p, .agg #[.int .i64 0, .int .i64 0, .int .i64 b], .int .i64 n, .int .i64 m] (by (simp only [List.map_toArray, List.map_cons, List.map_nil, Act.eval, Array.getD_eq_getD_getElem?, List.getElem?_toArray, List.getElem?_cons_succ, List.getElem?_cons_zero, Option.getD_some])) ((sleep_to p G b n m W w0 _ _ hW HtG.out E HE.out G' HG'.out).mono ?_)
    rintro e W4 ⟨rfl, h5⟩
    refine ⟨_, rfl, ?_⟩
    (have h := hK () W4 h5); simp only [ovl, Array.getD_eq_getD_getElem?, List.getElem?_toArray, List.getElem?_cons_succ, List.getElem?_cons_zero, Option.getD_some, List.setIfInBounds_toArray, List.set_cons_zero, List.set_cons_succ] at h; (try simp (decide := true) only [upd, hd, cond_true, cond_false, Bool.true_or, Bool.false_or, decide_true, decide_false] at h); exact h
  iterate 2 (· (intro L x W hW hC hL hd K hK; (try simp [depsB, Region.binds] at hd); (try simp only [Nat.reduceAdd] at hK hL); simp only [ovl, Array.getD_eq_getD_getElem?, List.getElem?_toArray, List.getElem?_cons_succ, List.getElem?_cons_zero, Option.getD_some, List.setIfInBounds_toArray, List.set_cons_zero, List.set_cons_succ]; (try simp only [hd, cond_true, cond_false]); (have hW0 := hW); clear hW; go_simp; (have h := hK () W hW0); simp only [ovl, Array.getD_eq_getD_getElem?, List.getElem?_toArray, List.getElem?_cons_succ, List.getElem?_cons_zero, Option.getD_some, List.setIfInBounds_toArray, List.set_cons_zero, List.set_cons_succ] at h; (try simp (decide := true) only [upd, hd, cond_true, cond_false, Bool.true_or, Bool.false_or, decide_true, decide_false] at h); exact h))
  · intro L x W hW hC hL hd K hK; (try simp [depsB, Region.binds] at hd); (try simp only [Nat.reduceAdd] at hK hL)
    simp only [ovl, Array.getD_eq_getD_getElem?, List.getElem?_toArray, List.getElem?_cons_succ, List.getElem?_cons_zero, Option.getD_some, List.setIfInBounds_toArray, List.set_cons_zero, List.set_cons_succ]; (try simp only [hd, cond_true, cond_false])
    simp only [hL, hd, cond_false, cond_true] at hW
    refine hW.store 61 (.tmp 6) (.tmp 93) (by rfl) (by rfl) #[.int .i64 R'.towers, .int .i64 R'.need, .int .i64 R'.newest, .string ⟨R'.claim.toArray⟩, .slice ah nT ch, .bool R'.sl, .int .i64 R'.fr, .int .i64 R'.to] (by rfl) (by kernel_rfl) (by rfl) (by simp [Value.oneCell']) (fun W5 h5 => ?_)
    (have h := hK () W5 (by simpa [upd, hd] using h5)); simp only [ovl, Array.getD_eq_getD_getElem?, List.getElem?_toArray, List.getElem?_cons_succ, List.getElem?_cons_zero, Option.getD_some, List.setIfInBounds_toArray, List.set_cons_zero, List.set_cons_succ] at h; (try simp (decide := true) only [upd, hd, cond_true, cond_false, Bool.true_or, Bool.false_or, decide_true, decide_false] at h); exact h
  iterate 1 (· (intro L x W hW hC hL hd K hK; (try simp [depsB, Region.binds] at hd); (try simp only [Nat.reduceAdd] at hK hL); simp only [ovl, Array.getD_eq_getD_getElem?, List.getElem?_toArray, List.getElem?_cons_succ, List.getElem?_cons_zero, Option.getD_some, List.setIfInBounds_toArray, List.set_cons_zero, List.set_cons_succ]; (try simp only [hd, cond_true, cond_false]); (have hW0 := hW); clear hW; go_simp; (have h := hK () W hW0); simp only [ovl, Array.getD_eq_getD_getElem?, List.getElem?_toArray, List.getElem?_cons_succ, List.getElem?_cons_zero, Option.getD_some, List.setIfInBounds_toArray, List.set_cons_zero, List.set_cons_succ] at h; (try simp (decide := true) only [upd, hd, cond_true, cond_false, Bool.true_or, Bool.false_or, decide_true, decide_false] at h); exact h))
  intro x W9 hW9
  simp only [ovl, cond_true, Array.getD_eq_getD_getElem?, List.getElem?_toArray, List.getElem?_cons_succ, List.getElem?_cons_zero, Option.getD_some, List.setIfInBounds_toArray, List.set_cons_zero, List.set_cons_succ]
  simp only [cond_true] at hW9
  have hb := hW9.has (b := w.heap.size + 2) (t := 61) (cs := #[.int .i64 R'.towers, .int .i64 R'.need, .int .i64 R'.newest, .string ⟨R'.claim.toArray⟩, .slice ah nT ch, .bool R'.sl, .int .i64 R'.fr, .int .i64 R'.to]) (List.mem_cons_self ..)
  (have e0 := hb.cell 0); (have e1 := hb.cell 1); (have e2 := hb.cell 2); (have e3 := hb.cell 3); (have e4 := hb.cell 4); (have e5 := hb.cell 5); (have e6 := hb.cell 6); (have e7 := hb.cell 7)
  have H9 := Lib.hid (hW9.dropC (B := [_]))
  clear hW9 hb
  go_wp2
  refine bodyPost_ret (v := .tuple #[.agg #[.int .i64 R'.towers, .int .i64 R'.need, .int .i64 R'.newest, .string ⟨R'.claim.toArray⟩, .slice ah nT ch, .bool R'.sl, .int .i64 R'.fr, .int .i64 R'.to], .bool true]) (by simp [results, Try.results48, go_sem, e0, e1, e2, e3, e4, e5, e6, e7]) rfl ?_
  refine ⟨G', R', .slice ah nT ch, _, rfl, fun x hx => List.mem_cons_of_mem _ (List.mem_cons_of_mem _ (HXX.out x hx)), H9.out, ?_, HGR.out⟩
  rw [HhR.out.1, HhR.out.2]
  exact HS1.out.mono (fun x hx => List.mem_cons_of_mem _ (List.mem_cons_of_mem _ hx))

set_option maxRecDepth 100000 in
set_option maxHeartbeats 2000000 in
theorem do_wake (kd wh n m b : Int) (hk : cutN kd 4 = 3) (ac : Option Addr) (cl cc : Nat) (w w0 : World) (C X : List Blk) (p : Nat) (G : GS) (R : RS) (hv : Value) (h : Gu w w0 C X p G) (hs : Sl w0 X hv R.towers (ics R.has)) (hr : GR G R) :
    Calls Try.prog 48 #[ptr p, .agg #[.int .i64 R.towers, .int .i64 R.need, .int .i64 R.newest, .string ⟨R.claim.toArray⟩, hv, .bool R.sl, .int .i64 R.fr, .int .i64 R.to], .agg #[.int .i64 kd, .int .i64 wh, .int .i64 n, .int .i64 m, .int .i64 b, .slice ac cl cc]] w fun e w' => ∃ G' R' hv' X', e = .returned (.tuple #[.agg #[.int .i64 R'.towers, .int .i64 R'.need, .int .i64 R'.newest, .string ⟨R'.claim.toArray⟩, hv', .bool R'.sl, .int .i64 R'.fr, .int .i64 R'.to], .bool true]) ∧ Sub X X' ∧ Gu w' w0 C X' p G' ∧ Sl w0 X' hv' R'.towers (ics R'.has) ∧ GR G' R' := by
  have ez := cut_eq kd 4 (by omega) (by omega)
  rw [hk] at ez
  have ez' : wrap64 ((IntKind.u64.wrap kd).tmod 4) = (3 : Int) := ez
  clear ez hk
  obtain ⟨nT, HnT⟩ : ∃ k, Hid (R.towers = k) := ⟨_, rfl⟩
  have hs0 := hs
  rw [HnT.out] at hs
  obtain ⟨ah, ch, rfl, -⟩ := hs.slice
  have HSl := Lib.hid hs0
  have HR := Lib.hid hr
  have HtG : Hid (G.towers ≤ 16) := by show _ ≤ _; rw [hr.tow]; exact hr.tt
  obtain ⟨G', HG'⟩ : ∃ y, Hid (wakeG G = y) := ⟨_, rfl⟩
  have HGR : Hid (GR G' { R with sl := false, fr := 0, to := 0 }) := by
    rw [← HG'.out]
    exact hr.wake
  have HS := Lib.hid (((h.park (cs := #[.int .i64 R.towers, .int .i64 R.need, .int .i64 R.newest, .string ⟨R.claim.toArray⟩, .slice ah nT ch, .bool R.sl, .int .i64 R.fr, .int .i64 R.to]) (b := w.heap.size) (t := 61) rfl).key #[.int .i64 kd, .int .i64 wh, .int .i64 n, .int .i64 m, .int .i64 b, .slice ac cl cc] 99 (w.heap.size + 1) (by simp)).park (cs := #[.int .i64 0, .int .i64 0, .int .i64 0, .string ByteArray.empty, .slice none 0 0, .bool false, .int .i64 0, .int .i64 0]) (b := w.heap.size + 2) (t := 61) (by simp))
  clear hs hs0 hr h
  go_enter Try.func48, Try.ntmps48
  go_wp2_with fail
  (try simp only [ez'])
  go_wp2_with fail
  refine (wake_to p G _ w0 _ _ HS.out).mono ?_
  rintro e W4 ⟨rfl, h5⟩
  rw [HG'.out] at h5
  have hb := h5.has (b := w.heap.size) (t := 61) (cs := #[.int .i64 R.towers, .int .i64 R.need, .int .i64 R.newest, .string ⟨R.claim.toArray⟩, .slice ah nT ch, .bool R.sl, .int .i64 R.fr, .int .i64 R.to]) (List.mem_cons_of_mem _ (List.mem_cons_self ..))
  (have d0 := hb.cell 0); (have d1 := hb.cell 1); (have d2 := hb.cell 2); (have d3 := hb.cell 3); (have d4 := hb.cell 4); (have d5 := hb.cell 5); (have d6 := hb.cell 6); (have d7 := hb.cell 7); (have f5 := hb.frozen 5); (have f6 := hb.frozen 6); (have f7 := hb.frozen 7); (have l4 := hb.lt)
  have hb2 : HasBlk W4 (w.heap.size + 1 + 1) 61 #[.int .i64 0, .int .i64 0, .int .i64 0, .string ByteArray.empty, .slice none 0 0, .bool false, .int .i64 0, .int .i64 0] := h5.has (List.mem_cons_self ..)
  (have z0 := hb2.cell 0); (have y0 := hb2.frozen 0); (have z1 := hb2.cell 1); (have y1 := hb2.frozen 1); (have z2 := hb2.cell 2); (have y2 := hb2.frozen 2); (have z3 := hb2.cell 3); (have y3 := hb2.frozen 3); (have z4 := hb2.cell 4); (have y4 := hb2.frozen 4); (have z5 := hb2.cell 5); (have y5 := hb2.frozen 5); (have z6 := hb2.cell 6); (have y6 := hb2.frozen 6); (have z7 := hb2.cell 7); (have y7 := hb2.frozen 7); (have l6 := hb2.lt)
  replace h5 : Gu W4 w0 (⟨w.heap.size + 1 + 1, 61, #[.int .i64 0, .int .i64 0, .int .i64 0, .string ByteArray.empty, .slice none 0 0, .bool false, .int .i64 0, .int .i64 0]⟩ :: (⟨w.heap.size, 61, #[.int .i64 R.towers, .int .i64 R.need, .int .i64 R.newest, .string ⟨R.claim.toArray⟩, .slice ah nT ch, .bool R.sl, .int .i64 R.fr, .int .i64 R.to]⟩ :: C)) (⟨w.heap.size + 1, 99, #[.int .i64 kd, .int .i64 wh, .int .i64 n, .int .i64 m, .int .i64 b, .slice ac cl cc]⟩ :: X) p G' := h5
  have H7 : Hid (Gu (((W4.setCell ⟨w.heap.size, 5, none⟩ (.bool false)).setCell ⟨w.heap.size, 6, none⟩ (.int .i64 0)).setCell ⟨w.heap.size, 7, none⟩ (.int .i64 0)) w0 (⟨w.heap.size, 61, #[.int .i64 R.towers, .int .i64 R.need, .int .i64 R.newest, .string ⟨R.claim.toArray⟩, .slice ah nT ch, .bool false, .int .i64 0, .int .i64 0]⟩ :: (⟨w.heap.size + 1 + 1, 61, #[.int .i64 0, .int .i64 0, .int .i64 0, .string ByteArray.empty, .slice none 0 0, .bool false, .int .i64 0, .int .i64 0]⟩ :: C)) (⟨w.heap.size + 1, 99, #[.int .i64 kd, .int .i64 wh, .int .i64 n, .int .i64 m, .int .i64 b, .slice ac cl cc]⟩ :: X) p G') := ((((h5.permC (C' := ⟨w.heap.size, 61, #[.int .i64 R.towers, .int .i64 R.need, .int .i64 R.newest, .string ⟨R.claim.toArray⟩, .slice ah nT ch, .bool R.sl, .int .i64 R.fr, .int .i64 R.to]⟩ :: (⟨w.heap.size + 1 + 1, 61, #[.int .i64 0, .int .i64 0, .int .i64 0, .string ByteArray.empty, .slice none 0 0, .bool false, .int .i64 0, .int .i64 0]⟩ :: C)) (perm_cnt fun x => by simp only [cnt_append, cnt_cons, cnt_nil] <;> omega)).set 5 (.bool false)).set 6 (.int .i64 0)).set 7 (.int .i64 0))
  have H8 := Lib.hid (((((((((H7.out.permC (C' := ⟨w.heap.size + 1 + 1, 61, #[.int .i64 0, .int .i64 0, .int .i64 0, .string ByteArray.empty, .slice none 0 0, .bool false, .int .i64 0, .int .i64 0]⟩ :: (⟨w.heap.size, 61, #[.int .i64 R.towers, .int .i64 R.need, .int .i64 R.newest, .string ⟨R.claim.toArray⟩, .slice ah nT ch, .bool false, .int .i64 0, .int .i64 0]⟩ :: C)) (perm_cnt fun x => by simp only [cnt_append, cnt_cons, cnt_nil] <;> omega)).set 0 (.int .i64 R.towers)).set 1 (.int .i64 R.need)).set 2 (.int .i64 R.newest)).set 3 (.string ⟨R.claim.toArray⟩)).set 4 (.slice ah nT ch)).set 5 (.bool false)).set 6 (.int .i64 0)).set 7 (.int .i64 0))
  have H9 : Hid (Gu _ w0 (⟨w.heap.size + 1 + 1, 61, #[.int .i64 R.towers, .int .i64 R.need, .int .i64 R.newest, .string ⟨R.claim.toArray⟩, .slice ah nT ch, .bool false, .int .i64 0, .int .i64 0]⟩ :: (⟨w.heap.size, 61, #[.int .i64 R.towers, .int .i64 R.need, .int .i64 R.newest, .string ⟨R.claim.toArray⟩, .slice ah nT ch, .bool false, .int .i64 0, .int .i64 0]⟩ :: C)) (⟨w.heap.size + 1, 99, #[.int .i64 kd, .int .i64 wh, .int .i64 n, .int .i64 m, .int .i64 b, .slice ac cl cc]⟩ :: X) p G') := Lib.hid H8.out
  clear hb hb2 h5 HS H7 H8
  go_wp2
  refine wp_opqK (fun W => Gu W w0 (⟨w.heap.size + 1 + 1, 61, #[.int .i64 R.towers, .int .i64 R.need, .int .i64 R.newest, .string ⟨R.claim.toArray⟩, .slice ah nT ch, .bool false, .int .i64 0, .int .i64 0]⟩ :: (⟨w.heap.size, 61, #[.int .i64 R.towers, .int .i64 R.need, .int .i64 R.newest, .string ⟨R.claim.toArray⟩, .slice ah nT ch, .bool false, .int .i64 0, .int .i64 0]⟩ :: C)) (⟨w.heap.size + 1, 99, #[.int .i64 kd, .int .i64 wh, .int .i64 n, .int .i64 m, .int .i64 b, .slice ac cl cc]⟩ :: X) p G') H9.out ?_
  intro W9 h9
  have hb9 : HasBlk W9 (w.heap.size + 1 + 1) 61 #[.int .i64 R.towers, .int .i64 R.need, .int .i64 R.newest, .string ⟨R.claim.toArray⟩, .slice ah nT ch, .bool false, .int .i64 0, .int .i64 0] := h9.has (List.mem_cons_self ..)
  (have e0 := hb9.cell 0); (have e1 := hb9.cell 1); (have e2 := hb9.cell 2); (have e3 := hb9.cell 3); (have e4 := hb9.cell 4); (have e5 := hb9.cell 5); (have e6 := hb9.cell 6); (have e7 := hb9.cell 7)
  have H10 := Lib.hid (h9.dropC (B := [_, _]))
  clear h9 hb9 H9
  refine bodyPost_ret (v := .tuple #[.agg #[.int .i64 R.towers, .int .i64 R.need, .int .i64 R.newest, .string ⟨R.claim.toArray⟩, .slice ah nT ch, .bool false, .int .i64 0, .int .i64 0], .bool true]) (by simp [results, Try.results48, go_sem, e0, e1, e2, e3, e4, e5, e6, e7]) rfl ?_
  refine ⟨G', { R with sl := false, fr := 0, to := 0 }, .slice ah nT ch, _, rfl, fun x hx => List.mem_cons_of_mem _ hx, H10.out, ?_, HGR.out⟩
  exact HSl.out.mono (fun x hx => List.mem_cons_of_mem _ hx)

end Go.Proofs.Ytghaiplhakeahaa
