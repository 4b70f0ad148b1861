/- guard: contract of Clone; two guards. -/
import Derived.Test.YtghaiplhakeahaaGf
import Derived.Test.YtghaiplhakeahaaAe
namespace Go.Proofs.Ytghaiplhakeahaa
set_option linter.unusedSimpArgs false
set_option linter.unusedVariables false
open Go.RowKit

/-- Two guards beside blocks C. -/
def Gw2 (w w0 : World) (C X : List Blk) (p : Nat) (G : GS) (q : Nat) (H : GS) : Prop := ∃ v1 v2, Ow w w0 (⟨p, 132, gcs G v1⟩ :: (⟨q, 132, gcs H v2⟩ :: (C ++ X))) ∧ Msg w0 X v1 G.box ∧ Msg w0 X v2 H.box
section
variable {w w0 : World} {C C' X : List Blk} {p q : Nat} {G H : GS}
theorem Gw2.swap (h : Gw2 w w0 C X p G q H) : Gw2 w w0 C X q H p G := by
  obtain ⟨v1, v2, O, m1, m2⟩ := h
  exact ⟨v2, v1, O.perm (perm_cnt fun x => by simp only [cnt_append, cnt_cons, cnt_nil] <;> omega), m2, m1⟩
theorem Gw2.one (h : Gw2 w w0 C X p G q H) : ∃ v2, Gu w w0 (⟨q, 132, gcs H v2⟩ :: C) X p G ∧ Msg w0 X v2 H.box := by
  obtain ⟨v1, v2, O, m1, m2⟩ := h
  exact ⟨v2, ⟨v1, O, m1⟩, m2⟩
theorem Gw2.mk' {v2 : Value} {X' : List Blk} (h : Gu w w0 (⟨q, 132, gcs H v2⟩ :: C) X' p G) (m2 : Msg w0 X v2 H.box) (hs : Sub X X') : Gw2 w w0 C X' p G q H := by
  obtain ⟨v1, O, m1⟩ := h
  exact ⟨v1, v2, O, m1, m2.mono hs⟩
theorem Gw2.of_below {w' : World} (h : Gw2 w w0 C X p G q H) (hb : Below w.heap.size w w') : Gw2 w' w0 C X p G q H := by
  obtain ⟨v1, v2, O, m1, m2⟩ := h
  exact ⟨v1, v2, O.of_below hb, m1, m2⟩
theorem Gw2.plus (h : Gw2 w w0 C X p G q H) (g : Array Obj) (d : Nat) : Gw2 (Go.Proofs.Ytghaiplhakeahaa.plus w g d) w0 C X p G q H := h.of_below (bplus (Below.refl _ _) g d)
theorem Gw2.alloc (h : Gw2 w w0 C X p G q H) (o : Obj) : Gw2 (w.alloc o) w0 C X p G q H := h.of_below (balloc (Below.refl _ _) o)
theorem Gw2.drew (h : Gw2 w w0 C X p G q H) : Gw2 w.drew w0 C X p G q H := h.of_below (Below.refl _ _).drew
theorem Gw2.below (h : Gw2 w w0 C X p G q H) : Below w0.heap.size w0 w := by
  obtain ⟨v1, v2, O, m1, m2⟩ := h; exact O.below
theorem Gw2.ow (h : Gw2 w w0 C X p G q H) : ∃ Y, Ow w w0 Y ∧ Sub X Y ∧ Sub C Y := by
  obtain ⟨v1, v2, O, m1, m2⟩ := h; exact ⟨_, O, fun x hx => by simp [hx], fun x hx => by simp [hx]⟩
theorem Gw2.has (h : Gw2 w w0 C X p G q H) {b : Nat} {t : TypeId} {cs : Array Value} (hx : (⟨b, t, cs⟩ : Blk) ∈ C) : HasBlk w b t cs := by
  obtain ⟨Y, O, -, hC⟩ := h.ow; exact O.has (hC _ hx)
theorem Gw2.gu (h : Gw2 w w0 C X p G q H) : ∃ C', Gu w w0 C' X p G := by
  obtain ⟨v2, g, -⟩ := h.one; exact ⟨_, g⟩
theorem Gw2.note (h : Gw2 w w0 C X p G q H) (n : Int) (v : Value) (l : List UInt8) (hv : BSl w v l) (E : Nat) (hE : noteE G n l = E) (G' : GS) (hG : noteG G n l = G') :
    Calls Try.prog 29 #[ptr p, .int .i64 n, v] w fun e w' => e = .returned (.int .i64 E) ∧ ∃ X', Sub X X' ∧ Gw2 w' w0 C X' p G' q H := by
  obtain ⟨v2, g, m2⟩ := h.one
  refine (note_to p G n v l w w0 _ X g hv E hE G' hG).mono ?_
  rintro e w' ⟨rfl, X', hs, g'⟩
  exact ⟨rfl, X', hs, Gw2.mk' g' m2 hs⟩
theorem Gw2.ack (h : Gw2 w w0 C X p G q H) (which n : Int) (ht : G.towers ≤ 16) (E : Nat) (hE : ackE G which n = E) (G' : GS) (hG : ackG G which n = G') :
    Calls Try.prog 30 #[ptr p, .int .i64 which, .int .i64 n] w fun e w' => e = .returned (.int .i64 E) ∧ Gw2 w' w0 C X p G' q H := by
  obtain ⟨v2, g, m2⟩ := h.one
  refine (ack_to p G which n w w0 _ X g ht E hE G' hG).mono ?_
  rintro e w' ⟨rfl, g'⟩
  exact ⟨rfl, Gw2.mk' g' m2 (Sub.refl X)⟩
theorem Gw2.sleep (h : Gw2 w w0 C X p G q H) (b f t : Int) (ht : G.towers ≤ 16) (E : Nat) (hE : sleepE G b f t = E) (G' : GS) (hG : sleepG G b f t = G') :
    Calls Try.prog 43 #[ptr p, .agg #[.int .i64 0, .int .i64 0, .int .i64 b], .int .i64 f, .int .i64 t] w fun e w' => e = .returned (.int .i64 E) ∧ Gw2 w' w0 C X p G' q H := by
  obtain ⟨v2, g, m2⟩ := h.one
  refine (sleep_to p G b f t w w0 _ X g ht E hE G' hG).mono ?_
  rintro e w' ⟨rfl, g'⟩
  exact ⟨rfl, Gw2.mk' g' m2 (Sub.refl X)⟩
theorem Gw2.wake (h : Gw2 w w0 C X p G q H) :
    Calls Try.prog 41 #[ptr p] w fun e w' => e = .returned (.tuple #[]) ∧ Gw2 w' w0 C X p (wakeG G) q H := by
  obtain ⟨v2, g, m2⟩ := h.one
  refine (wake_to p G w w0 _ X g).mono ?_
  rintro e w' ⟨rfl, g'⟩
  exact ⟨rfl, Gw2.mk' g' m2 (Sub.refl X)⟩
end

theorem gclone_nil (w : World) : Calls Try.prog 46 #[.pointer none] w fun e w' => e = .returned (.pointer none) ∧ w' = w := by
  go_enter Try.func46, Try.ntmps46
  go_wp2
  go_ret
  exact ⟨rfl, rfl⟩
theorem gcs_one (G : GS) (v : Value) (hv : v.oneCell' = true) : ∀ u ∈ (gcs G v).toList, u.oneCell' = true := by
  intro u hu
  simp [gcs] at hu
  rcases hu with rfl | rfl | rfl | rfl | rfl | rfl | rfl | rfl | rfl | rfl | rfl | rfl | rfl | rfl | rfl | rfl | rfl | rfl | rfl | rfl | rfl | rfl | rfl | rfl | rfl | rfl | rfl | rfl | rfl | rfl | rfl | rfl | rfl | rfl | rfl | rfl | rfl | rfl | rfl <;> first | rfl | exact hv
def zeroG : GS := ⟨0, 0, 0, false, 0, 0, [], fun _ => 0, 0, 0⟩
set_option maxRecDepth 100000 in
set_option maxHeartbeats 4000000 in
theorem gclone_to (p : Nat) (G : GS) (w w0 : World) (C X : List Blk) (h : Gu w w0 C X p G) (hl : G.box.length ≤ 1000000) :
    Calls Try.prog 46 #[ptr p] w fun e w' => ∃ q, e = .returned (ptr q) ∧ ∃ X', Sub X X' ∧ Gw2 w' w0 C X' p G q G := by
  obtain ⟨bv, O, m⟩ := h
  obtain ⟨ab, cb, rfl⟩ := m.slice
  have HB := O.has (List.mem_cons_self ..)
  have lt := HB.lt
  have HBL := Lib.hid HB
  have HO := Lib.hid O
  have HM := Lib.hid m
  obtain ⟨zz, hzz⟩ : ∃ zz : Array Value, zz = #[.int .u8 0, .int .u8 0, .int .u8 0, .int .u8 0, .int .u8 0, .int .u8 0, .int .u8 0, .int .u8 0, .int .i64 0, .int .i64 0, .bool false, .int .u8 0, .int .u8 0, .int .u8 0, .int .u8 0, .int .u8 0, .int .u8 0, .int .u8 0, .int .u8 0, .int .i64 0, .slice none 0 0, .int .i64 0, .int .i64 0, .int .i64 0, .int .i64 0, .int .i64 0, .int .i64 0, .int .i64 0, .int .i64 0, .int .i64 0, .int .i64 0, .int .i64 0, .int .i64 0, .int .i64 0, .int .i64 0, .int .i64 0, .int .i64 0, .int .i64 0, .int .i64 0] := ⟨_, rfl⟩
  have hO1 := (O.key zz 132 w.heap.size rfl)
  have hz39 : zz.size = 39 := by rw [hzz]; rfl
  rw [hzz] at hO1
  have HO1 := Lib.hid hO1
  clear O HB m hO1
  go_enter Try.func46, Try.ntmps46
  go_wp2_with (first | (refine wpList_load_want (by rfl) 132 (.tmp 7) (by rfl) p (by rfl) 132 (gcs G (.slice ab G.box.length cb)) _ _ HBL.out Try.underlying132 rfl (by kernel_rfl) ?_) | (refine HO1.out.storeL rfl 132 (.tmp 3) (.tmp 8) rfl (by rfl) (gcs G (.slice ab G.box.length cb)) (by rfl) (by kernel_rfl) (by rfl) (gcs_one _ _ rfl) ?_; intro w3 O3; (have HO3 := Lib.hid O3); (have hk := Gu.newest (O3.perm (L' := ⟨p, 132, gcs G (.slice ab G.box.length cb)⟩ :: ((⟨w.heap.size, 132, gcs G (.slice ab G.box.length cb)⟩ :: C) ++ X)) (perm_cnt fun x => by simp only [cnt_append, cnt_cons, cnt_nil] <;> omega))); (have lt3 : p < w3.heap.size := (O3.has (b := p) (List.mem_cons_of_mem _ (List.mem_cons_self ..))).lt); (have hk0 := hk 0 (by omega)); (have hk1 := hk 1 (by omega)); (have hk2 := hk 2 (by omega)); (have hk3 := hk 3 (by omega)); (have hk4 := hk 4 (by omega)); (have hk5 := hk 5 (by omega)); (have hk6 := hk 6 (by omega)); (have hk7 := hk 7 (by omega)); (have hk8 := hk 8 (by omega)); (have hk9 := hk 9 (by omega)); (simp only [Nat.reduceAdd, List.getElem?_toArray, List.getElem?_cons_succ, List.getElem?_cons_zero] at hk0 hk1 hk2 hk3 hk4 hk5 hk6 hk7 hk8 hk9); clear O3 hk))
  refine (copied_to G.hint G.num _ G.box hl _ (HM.out.bsl HO3.out (fun z hz => by simp [hz]))).mono ?_
  rintro e w4 ⟨u, rfl, hb4, hu⟩
  obtain ⟨NB, O4, M4⟩ := hu.found HO3.out (Ext.of_below hb4)
  obtain ⟨au, cu, rfl⟩ := M4.slice
  have HM4 := Lib.hid M4
  have HO4 := Lib.hid (O4.perm (L' := ⟨w.heap.size, 132, gcs G (.slice ab G.box.length cb)⟩ :: (⟨p, 132, gcs G (.slice ab G.box.length cb)⟩ :: (NB ++ (C ++ X)))) (perm_cnt fun x => by simp only [cnt_append, cnt_cons, cnt_nil] <;> omega))
  have lt4 : w.heap.size < w4.heap.size := (HO4.out.has (List.mem_cons_self ..)).lt
  clear hb4 hu O4 M4 HO3 HO1 hk0 hk1 hk2 hk3 hk4 hk5 hk6 hk7 hk8 hk9 lt3
  go_wp2_with (refine HO4.out.storeAtL rfl 29 (.tmp 14) (.tmp 13) rfl 11 (by rfl) #[.int .u8 (by8 G.hint 0), .int .u8 (by8 G.hint 1), .int .u8 (by8 G.hint 2), .int .u8 (by8 G.hint 3), .int .u8 (by8 G.hint 4), .int .u8 (by8 G.hint 5), .int .u8 (by8 G.hint 6), .int .u8 (by8 G.hint 7), .int .i64 G.num, .slice au G.box.length cu] (by rfl) (by kernel_rfl) (by rw [gcs_size]; simp) (by simp [Value.oneCell']) ?_; intro w5 O5)
  go_ret
  have e := gcs_newest G (.slice ab G.box.length cb) G.hint G.num (.slice au G.box.length cu) G.box
  unfold apc at e
  rw [e] at O5
  have O6 : Ow w5 w0 (⟨w.heap.size, 132, gcs G (.slice au G.box.length cu)⟩ :: (⟨p, 132, gcs G (.slice ab G.box.length cb)⟩ :: (NB ++ (C ++ X)))) := O5
  exact ⟨w.heap.size, rfl, NB ++ X, Sub.app NB X, .slice ab G.box.length cb, .slice au G.box.length cu, O6.perm (perm_cnt fun x => by simp only [cnt_append, cnt_cons, cnt_nil] <;> omega), HM.out.mono (Sub.app NB X), HM4.out.mono (fun z hz => by simp [hz])⟩

end Go.Proofs.Ytghaiplhakeahaa
